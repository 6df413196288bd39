/- The machine's side of laws of this seat: Go functions as Lean functions, and the proof that a call of each comes to what its function says (written by a program of this session, px.py, that runs the kit's print). -/
import Derived.Test.YtoknncbdfdgfjaaDiskF
import Derived.Test.YtoknncbdfdgfjaaQ0
import Derived.Test.YtoknncbdfdgfjaaQ2
import Derived.Test.YtoknncbdfdgfjaaQ3
import Derived.Test.YtoknncbdfdgfjaaQ4
import Derived.Test.YtoknncbdfdgfjaaQ5
import Derived.Test.YtoknncbdfdgfjaaQ6
namespace Go.Proofs.Ytoknncbdfdgfjaa.Q
open Go.RowKit Go.Proofs.YtoknncbdfdgfjaaW.PrintWords Go.Proofs.YtoknncbdfdgfjaaW.PrintLast Go.Proofs.YtoknncbdfdgfjaaW.PrintMore
attribute [local go_sem] max2_int min2_int max_two min_two max_three min_three max_four min_four   -- for this text's walks alone
attribute [local go_sem high] Go.Proofs.Ytoknncbdfdgfjaa.px_xor_u8 Go.Proofs.Ytoknncbdfdgfjaa.px_xor_u16 Go.Proofs.Ytoknncbdfdgfjaa.px_xor_u32 Go.Proofs.Ytoknncbdfdgfjaa.px_xor_u64
set_option linter.unusedVariables false
set_option linter.unusedSimpArgs false

/-! ### copyholdlaw04_DiskReads: function 8 -/
mutual
def copyholdlaw04_DiskReads.j0 : Nat → Int → Int → Bool → Bool → List ByteArray → List (S31) → Bool → Option (Bool)
  | 0, _, _, _, _, _, _, _ => none
  | k + 1, x1, x2, x7, x41, x170000, x170001, x170002 => if x41 = true then (some x7) else ((disk_New.f x2).bind fun bt171 => ((copyholdref04_New.f k x2).bind fun bt180 => ((copyholdref04_Same.f k bt171.1 bt171.2.1 bt171.2.2.1 bt180.1 bt180.2.1 bt180.2.2.1).bind fun t189 => ((copyholdref04_Right.f k x170000 x170001 x170002).bind fun t190 => (if t189 = true then (if bt171.2.2.2 = bt180.2.2.2 then ((disk_Right.f x170000 x170001 x170002).bind fun t191 => (copyholdlaw04_DiskReads.j1 k x1 x2 x7 t190 (t191 != t190) x170000 x170001 x170002)) else (copyholdlaw04_DiskReads.j1 k x1 x2 x7 t190 true x170000 x170001 x170002)) else (copyholdlaw04_DiskReads.j1 k x1 x2 x7 t190 true x170000 x170001 x170002))))))
def copyholdlaw04_DiskReads.j1 : Nat → Int → Int → Bool → Bool → Bool → List ByteArray → List (S31) → Bool → Option (Bool)
  | 0, _, _, _, _, _, _, _, _ => none
  | k + 1, x1, x2, x7, x13, x70, x170000, x170001, x170002 => if x70 = true then (some false) else (if x13 = true then ((disk_Read.f x170000 x170001 x170002 x1).bind fun bt192 => ((copyholdref04_Read.f k x170000 x170001 x170002 x1).bind fun bt194 => ((disk_Stretch.f x170000 x170001 x170002 x1 x2).bind fun bt196 => ((copyholdref04_Stretch.f k x170000 x170001 x170002 x1 x2).bind fun bt198 => ((disk_Image.f x170000 x170001 x170002).bind fun t200 => ((copyholdref04_Image.f k x170000 x170001 x170002).bind fun t203 => ((copyholdref01_Strings.f k t200 t203).bind fun t206 => (if x7 = true then (if bt192.1.toList = bt194.1.toList then (if bt192.2 = bt194.2 then (if bt196.1.toList = bt198.1.toList then (if bt196.2 = bt198.2 then (some t206) else (some false)) else (some false)) else (some false)) else (some false)) else (some false))))))))) else (some x7))
end
def copyholdlaw04_DiskReads.f (k : Nat) (l0_0 : List ByteArray) (l0_1 : List (S31)) (a0_2 : Bool) (a1 : Int) (a2 : Int) : Option (Bool) := (copyholdlaw04_shown.f).bind fun t170 => (if (l0_0.length : Int) > 50 then (copyholdlaw04_DiskReads.j0 k a1 a2 t170 true l0_0 l0_1 a0_2) else (if (l0_1.length : Int) > 50 then (copyholdlaw04_DiskReads.j0 k a1 a2 t170 true l0_0 l0_1 a0_2) else (if a2 > 50 then (copyholdlaw04_DiskReads.j0 k a1 a2 t170 (decide (a2 ≤ 4096)) l0_0 l0_1 a0_2) else (copyholdlaw04_DiskReads.j0 k a1 a2 t170 false l0_0 l0_1 a0_2))))
theorem copyholdlaw04_DiskReads.mono_l : ∀ k, (∀ y0 y1 y2 y3 y4 y5 y6, LeO (copyholdlaw04_DiskReads.j0 k y0 y1 y2 y3 y4 y5 y6) (copyholdlaw04_DiskReads.j0 (k + 1) y0 y1 y2 y3 y4 y5 y6)) ∧ (∀ y0 y1 y2 y3 y4 y5 y6 y7, LeO (copyholdlaw04_DiskReads.j1 k y0 y1 y2 y3 y4 y5 y6 y7) (copyholdlaw04_DiskReads.j1 (k + 1) y0 y1 y2 y3 y4 y5 y6 y7))
  | 0 => ⟨fun _ _ _ _ _ _ _ r h => by simp [copyholdlaw04_DiskReads.j0] at h, fun _ _ _ _ _ _ _ _ r h => by simp [copyholdlaw04_DiskReads.j1] at h⟩
  | k + 1 => by
    obtain ⟨ih0, ih1⟩ := copyholdlaw04_DiskReads.mono_l k
    refine ⟨?_, ?_⟩
    · intro y0 y1 y2 y3 y4 y5 y6
      unfold copyholdlaw04_DiskReads.j0
      repeat' first
      | (with_reducible exact ih0 _ _ _ _ _ _ _)
      | (with_reducible exact ih1 _ _ _ _ _ _ _ _)
      | (with_reducible exact copyholdref01_Strings.mono _ _ _)
      | (with_reducible exact copyholdref04_Image.mono _ _ _ _)
      | (with_reducible exact copyholdref04_New.mono _ _)
      | (with_reducible exact copyholdref04_Read.mono _ _ _ _ _)
      | (with_reducible exact copyholdref04_Right.mono _ _ _ _)
      | (with_reducible exact copyholdref04_Same.mono _ _ _ _ _ _ _)
      | (with_reducible exact copyholdref04_Stretch.mono _ _ _ _ _ _)
      | (with_reducible exact LeO.refl _)
      | (with_reducible exact LeO.none _)
      | (with_reducible refine LeO.ite ?_ ?_)
      | (with_reducible refine LeO.bind ?_ (fun _ => ?_))
      | exact ih0 _ _ _ _ _ _ _
      | exact ih1 _ _ _ _ _ _ _ _
      | exact copyholdref01_Strings.mono _ _ _
      | exact copyholdref04_Image.mono _ _ _ _
      | exact copyholdref04_New.mono _ _
      | exact copyholdref04_Read.mono _ _ _ _ _
      | exact copyholdref04_Right.mono _ _ _ _
      | exact copyholdref04_Same.mono _ _ _ _ _ _ _
      | exact copyholdref04_Stretch.mono _ _ _ _ _ _
      | exact LeO.none _
      | refine LeO.ite ?_ ?_
      | refine LeO.bind ?_ (fun _ => ?_)
    · intro y0 y1 y2 y3 y4 y5 y6 y7
      unfold copyholdlaw04_DiskReads.j1
      repeat' first
      | (with_reducible exact ih0 _ _ _ _ _ _ _)
      | (with_reducible exact ih1 _ _ _ _ _ _ _ _)
      | (with_reducible exact copyholdref01_Strings.mono _ _ _)
      | (with_reducible exact copyholdref04_Image.mono _ _ _ _)
      | (with_reducible exact copyholdref04_New.mono _ _)
      | (with_reducible exact copyholdref04_Read.mono _ _ _ _ _)
      | (with_reducible exact copyholdref04_Right.mono _ _ _ _)
      | (with_reducible exact copyholdref04_Same.mono _ _ _ _ _ _ _)
      | (with_reducible exact copyholdref04_Stretch.mono _ _ _ _ _ _)
      | (with_reducible exact LeO.refl _)
      | (with_reducible exact LeO.none _)
      | (with_reducible refine LeO.ite ?_ ?_)
      | (with_reducible refine LeO.bind ?_ (fun _ => ?_))
      | exact ih0 _ _ _ _ _ _ _
      | exact ih1 _ _ _ _ _ _ _ _
      | exact copyholdref01_Strings.mono _ _ _
      | exact copyholdref04_Image.mono _ _ _ _
      | exact copyholdref04_New.mono _ _
      | exact copyholdref04_Read.mono _ _ _ _ _
      | exact copyholdref04_Right.mono _ _ _ _
      | exact copyholdref04_Same.mono _ _ _ _ _ _ _
      | exact copyholdref04_Stretch.mono _ _ _ _ _ _
      | exact LeO.none _
      | refine LeO.ite ?_ ?_
      | refine LeO.bind ?_ (fun _ => ?_)
theorem copyholdlaw04_DiskReads.mono : ∀ a0 a1 a2 a3 a4 k, LeO (copyholdlaw04_DiskReads.f k a0 a1 a2 a3 a4) (copyholdlaw04_DiskReads.f (k + 1) a0 a1 a2 a3 a4) := by
  intro a0 a1 a2 a3 a4 k
  obtain ⟨ih0, ih1⟩ := copyholdlaw04_DiskReads.mono_l k
  unfold copyholdlaw04_DiskReads.f
  repeat' first
      | (with_reducible exact ih0 _ _ _ _ _ _ _)
      | (with_reducible exact ih1 _ _ _ _ _ _ _ _)
      | (with_reducible exact copyholdref01_Strings.mono _ _ _)
      | (with_reducible exact copyholdref04_Image.mono _ _ _ _)
      | (with_reducible exact copyholdref04_New.mono _ _)
      | (with_reducible exact copyholdref04_Read.mono _ _ _ _ _)
      | (with_reducible exact copyholdref04_Right.mono _ _ _ _)
      | (with_reducible exact copyholdref04_Same.mono _ _ _ _ _ _ _)
      | (with_reducible exact copyholdref04_Stretch.mono _ _ _ _ _ _)
      | (with_reducible exact LeO.refl _)
      | (with_reducible exact LeO.none _)
      | (with_reducible refine LeO.ite ?_ ?_)
      | (with_reducible refine LeO.bind ?_ (fun _ => ?_))
      | exact ih0 _ _ _ _ _ _ _
      | exact ih1 _ _ _ _ _ _ _ _
      | exact copyholdref01_Strings.mono _ _ _
      | exact copyholdref04_Image.mono _ _ _ _
      | exact copyholdref04_New.mono _ _
      | exact copyholdref04_Read.mono _ _ _ _ _
      | exact copyholdref04_Right.mono _ _ _ _
      | exact copyholdref04_Same.mono _ _ _ _ _ _ _
      | exact copyholdref04_Stretch.mono _ _ _ _ _ _
      | exact LeO.none _
      | refine LeO.ite ?_ ?_
      | refine LeO.bind ?_ (fun _ => ?_)
set_option maxHeartbeats 8000000 in
set_option maxRecDepth 100000 in
theorem copyholdlaw04_DiskReads.calls (k : Nat) (A0_0 : Option Addr) (c0_0 : Nat) (l0_0 : List ByteArray) (A0_1 : Option Addr) (c0_1 : Nat) (l0_1 : List (S31)) (a0_2 : Bool) (a1 : Int) (a2 : Int) (r : Bool) (w : World) (hr0_0 : Kd.C Kd.string w A0_0 l0_0.length l0_0) (hc0_0 : l0_0.length ≤ c0_0) (hr0_1 : Kd.C k31 w A0_1 l0_1.length l0_1) (hc0_1 : l0_1.length ≤ c0_1) (h : copyholdlaw04_DiskReads.f k l0_0 l0_1 a0_2 a1 a2 = some r) :
    Calls Try.prog 8 #[.agg #[.slice A0_0 l0_0.length c0_0, .slice A0_1 l0_1.length c0_1, .bool a0_2], .int .i64 a1, .int .i64 a2] w fun e w' => e = .returned (.bool r) ∧ Below w.heap.size w w' := by
  have hu25 := Try.underlying25
  have HR0_0 := Aside0.mk hr0_0
  have HC0_0 := Aside0.mk hc0_0
  clear hr0_0 hc0_0
  have HR0_1 := Aside0.mk hr0_1
  have HC0_1 := Aside0.mk hc0_1
  clear hr0_1 hc0_1
  have HB := Aside0.mk (Below.refl w.heap.size w)
  have H : ((copyholdlaw04_shown.f).bind fun t170 => (if (l0_0.length : Int) > 50 then (copyholdlaw04_DiskReads.j0 k a1 a2 t170 true l0_0 l0_1 a0_2) else (if (l0_1.length : Int) > 50 then (copyholdlaw04_DiskReads.j0 k a1 a2 t170 true l0_0 l0_1 a0_2) else (if a2 > 50 then (copyholdlaw04_DiskReads.j0 k a1 a2 t170 (decide (a2 ≤ 4096)) l0_0 l0_1 a0_2) else (copyholdlaw04_DiskReads.j0 k a1 a2 t170 false l0_0 l0_1 a0_2))))) = some r := h
  clear h
  replace H := Option.bind_eq_some_iff.mp H
  obtain ⟨t170, A40, H⟩ := H
  replace H : (if (l0_0.length : Int) > 50 then (copyholdlaw04_DiskReads.j0 k a1 a2 t170 true l0_0 l0_1 a0_2) else (if (l0_1.length : Int) > 50 then (copyholdlaw04_DiskReads.j0 k a1 a2 t170 true l0_0 l0_1 a0_2) else (if a2 > 50 then (copyholdlaw04_DiskReads.j0 k a1 a2 t170 (decide (a2 ≤ 4096)) l0_0 l0_1 a0_2) else (copyholdlaw04_DiskReads.j0 k a1 a2 t170 false l0_0 l0_1 a0_2)))) = some r := H
  have A4 := Aside0.mk A40
  clear A40
  have HC5 := Aside0.mk H
  clear H
  go_enter Try.func8, Try.ntmps8
  go_upto_region 2 with (first | ((with_reducible refine gate_dst (N := 3) rfl ?_); (try (refine gate_guard (by rfl) ?_; dsimp only)); refine box_event ?hg (N := 3) ?hd (cs := #[.slice A0_0 l0_0.length c0_0, .slice A0_1 l0_1.length c0_1, .bool a0_2]) (t := 25) ?hr ?_; (case hd => rfl); (case hg => rfl); (case hr => first | (go_simp; done) | (go_simp; rfl)); intro gb169 hg w6 hbox hb; have n0_ := Aside0.mk (below_step (by repeat (first | (with_reducible first | exact HB.out | apply below_alloc | apply pw_below_drewN | apply below_drew1) | exact HB.out)) hb); have n1_ := Aside0.mk (hbox); have n2_ := Aside0.mk ((by rw [hg]; exact (below_size (by repeat (first | (with_reducible first | exact HB.out | apply below_alloc | apply pw_below_drewN | apply below_drew1) | exact HB.out))) : w.heap.size ≤ gb169)); have n3_ := Aside0.mk ((by rw [hg]; exact (below_size (by repeat (first | (with_reducible first | exact HB.out | apply below_alloc | apply pw_below_drewN | apply below_drew1) | exact HB.out))) : w.heap.size ≤ gb169)); clear HB; have HB := n0_; have BK169 := n1_; have GW169 := n2_; have GE169 := n3_; clear n0_ n1_ n2_ n3_; clear hb hbox hg) | ((with_reducible refine gate_callee (f := 9) rfl ?_); refine goesL_ (some 23) rfl rfl Try.func9 (by kernel_rfl) rfl #[] rfl (by (try simp only [List.map_toArray, List.map_cons, List.map_nil]); first | done | rfl | (simp only [List.length_drop, List.length_take]; rfl)) ?_; (with_reducible refine (copyholdlaw04_shown.calls  t170 _ A4.out).mono ?_); rintro e w7 ⟨rfl, hb⟩; refine ⟨_, rfl, ?_⟩; have n0_ := Aside0.mk (blk_below (g := gb169) (o := .cells #[.slice A0_0 l0_0.length c0_0, .slice A0_1 l0_1.length c0_1, .bool a0_2] 25 (0, 0)) (by (with_reducible repeat (first | refine blk_drewN ?_ _ | refine blk_drew ?_ | refine blk_alloc ?_ _)); exact BK169.out) hb); have n1_ := Aside0.mk (below_step (by repeat (first | (with_reducible first | exact HB.out | apply below_alloc | apply pw_below_drewN | apply below_drew1 | refine below_set ?_ GE169.out) | exact HB.out)) hb); clear BK169; clear HB; have BK169 := n0_; have HB := n1_; clear n0_ n1_; (try clear hb); (try clear hb2); (try clear hk); (try clear hi)))
  (try simp only [Act.put, List.setIfInBounds_toArray, List.set_cons_zero, List.set_cons_succ])
  go_cut [41] (fun v41 wc => ∃ (kq : Nat) (x41_4 : Bool), v41 = .bool x41_4 ∧ Aside0 (copyholdlaw04_DiskReads.j0 kq a1 a2 t170 x41_4 l0_0 l0_1 a0_2 = some r) ∧ Aside0 (kq ≤ k) ∧ Aside0 (wc.heap[gb169]? = some (.cells #[(.slice A0_0 l0_0.length c0_0), (.slice A0_1 l0_1.length c0_1), .bool a0_2] 25 (0, 0))) ∧ Aside0 (Below w.heap.size w wc))
  case first =>
    have H := HC5.out
    clear HC5
    by_cases c8 : (l0_0.length : Int) > 50
    · rw [if_pos c8] at H
      have c8b0 : decide (50 < (l0_0.length : Int)) = true := decide_eq_true c8
      have c8b1 : decide (50 < l0_0.length) = true := decide_eq_true (by omega)
      clear c8
      (first | rw [c8b0] | (simp only [i64_w, i32_w]; rw [c8b0]) | skip)
      have H' := Aside0.mk H
      clear H
      have hcz9_0 : w7.cell? ⟨gb169, 0, none⟩ = some (.slice A0_0 l0_0.length c0_0) := (blk_cell BK169.out 0).trans rfl
      have hcz9_1 : w7.cell? ⟨gb169, 1, none⟩ = some (.slice A0_1 l0_1.length c0_1) := (blk_cell BK169.out 1).trans rfl
      have hcz9_2 : w7.cell? ⟨gb169, 2, none⟩ = some (.bool a0_2) := (blk_cell BK169.out 2).trans rfl
      have hfz9_0 := blk_frozen BK169.out 0
      have hfz9_1 := blk_frozen BK169.out 1
      have hfz9_2 := blk_frozen BK169.out 2
      go_wp2
      go_meet
      case rel => exact ⟨_, (true), (by first | rfl | (simp; done) | (simp [*]; done)), H', ⟨by first | omega | exact Nat.le_refl _⟩, ⟨by (with_reducible repeat (first | refine blk_drewN ?_ _ | refine blk_drew ?_ | refine blk_alloc ?_ _)); exact BK169.out⟩, ⟨by repeat (first | (with_reducible first | exact HB.out | apply below_alloc | apply pw_below_drewN | apply below_drew1 | refine below_set ?_ GE169.out) | exact HB.out)⟩⟩
    · rw [if_neg c8] at H
      have c8b0 : decide (50 < (l0_0.length : Int)) = false := decide_eq_false c8
      have c8b1 : decide (50 < l0_0.length) = false := decide_eq_false (by omega)
      clear c8
      (first | rw [c8b0] | (simp only [i64_w, i32_w]; rw [c8b0]) | skip)
      by_cases c10 : (l0_1.length : Int) > 50
      · rw [if_pos c10] at H
        have c10b0 : decide (50 < (l0_1.length : Int)) = true := decide_eq_true c10
        have c10b1 : decide (50 < l0_1.length) = true := decide_eq_true (by omega)
        clear c10
        have H' := Aside0.mk H
        clear H
        have hcz11_0 : w7.cell? ⟨gb169, 0, none⟩ = some (.slice A0_0 l0_0.length c0_0) := (blk_cell BK169.out 0).trans rfl
        have hcz11_1 : w7.cell? ⟨gb169, 1, none⟩ = some (.slice A0_1 l0_1.length c0_1) := (blk_cell BK169.out 1).trans rfl
        have hcz11_2 : w7.cell? ⟨gb169, 2, none⟩ = some (.bool a0_2) := (blk_cell BK169.out 2).trans rfl
        have hfz11_0 := blk_frozen BK169.out 0
        have hfz11_1 := blk_frozen BK169.out 1
        have hfz11_2 := blk_frozen BK169.out 2
        go_wp2
        go_meet
        case rel => exact ⟨_, (true), (by first | rfl | (simp; done) | (simp [*]; done)), H', ⟨by first | omega | exact Nat.le_refl _⟩, ⟨by (with_reducible repeat (first | refine blk_drewN ?_ _ | refine blk_drew ?_ | refine blk_alloc ?_ _)); exact BK169.out⟩, ⟨by repeat (first | (with_reducible first | exact HB.out | apply below_alloc | apply pw_below_drewN | apply below_drew1 | refine below_set ?_ GE169.out) | exact HB.out)⟩⟩
      · rw [if_neg c10] at H
        have c10b0 : decide (50 < (l0_1.length : Int)) = false := decide_eq_false c10
        have c10b1 : decide (50 < l0_1.length) = false := decide_eq_false (by omega)
        clear c10
        by_cases c12 : a2 > 50
        · rw [if_pos c12] at H
          have c12b0 : decide (50 < a2) = true := decide_eq_true c12
          clear c12
          have H' := Aside0.mk H
          clear H
          have hcz13_0 : w7.cell? ⟨gb169, 0, none⟩ = some (.slice A0_0 l0_0.length c0_0) := (blk_cell BK169.out 0).trans rfl
          have hcz13_1 : w7.cell? ⟨gb169, 1, none⟩ = some (.slice A0_1 l0_1.length c0_1) := (blk_cell BK169.out 1).trans rfl
          have hcz13_2 : w7.cell? ⟨gb169, 2, none⟩ = some (.bool a0_2) := (blk_cell BK169.out 2).trans rfl
          have hfz13_0 := blk_frozen BK169.out 0
          have hfz13_1 := blk_frozen BK169.out 1
          have hfz13_2 := blk_frozen BK169.out 2
          go_wp2
          go_meet
          case rel => exact ⟨_, (decide (a2 ≤ 4096)), (by first | rfl | (simp; done) | (simp [*]; done)), H', ⟨by first | omega | exact Nat.le_refl _⟩, ⟨by (with_reducible repeat (first | refine blk_drewN ?_ _ | refine blk_drew ?_ | refine blk_alloc ?_ _)); exact BK169.out⟩, ⟨by repeat (first | (with_reducible first | exact HB.out | apply below_alloc | apply pw_below_drewN | apply below_drew1 | refine below_set ?_ GE169.out) | exact HB.out)⟩⟩
        · rw [if_neg c12] at H
          have c12b0 : decide (50 < a2) = false := decide_eq_false c12
          clear c12
          have H' := Aside0.mk H
          clear H
          have hcz14_0 : w7.cell? ⟨gb169, 0, none⟩ = some (.slice A0_0 l0_0.length c0_0) := (blk_cell BK169.out 0).trans rfl
          have hcz14_1 : w7.cell? ⟨gb169, 1, none⟩ = some (.slice A0_1 l0_1.length c0_1) := (blk_cell BK169.out 1).trans rfl
          have hcz14_2 : w7.cell? ⟨gb169, 2, none⟩ = some (.bool a0_2) := (blk_cell BK169.out 2).trans rfl
          have hfz14_0 := blk_frozen BK169.out 0
          have hfz14_1 := blk_frozen BK169.out 1
          have hfz14_2 := blk_frozen BK169.out 2
          go_wp2
          go_meet
          case rel => exact ⟨_, (false), (by first | rfl | (simp; done) | (simp [*]; done)), H', ⟨by first | omega | exact Nat.le_refl _⟩, ⟨by (with_reducible repeat (first | refine blk_drewN ?_ _ | refine blk_drew ?_ | refine blk_alloc ?_ _)); exact BK169.out⟩, ⟨by repeat (first | (with_reducible first | exact HB.out | apply below_alloc | apply pw_below_drewN | apply below_drew1 | refine below_set ?_ GE169.out) | exact HB.out)⟩⟩
  case rest =>
    clear HC5
    try clear c1
    try clear p2
    try clear c8
    try clear c8b0
    try clear c8b1
    try clear c9
    try clear c10
    try clear c10b0
    try clear c10b1
    try clear c12
    try clear c12b0
    try clear hcz11_0
    try clear hcz11_1
    try clear hcz11_2
    try clear hcz13_0
    try clear hcz13_1
    try clear hcz13_2
    try clear hcz14_0
    try clear hcz14_1
    try clear hcz14_2
    try clear hcz9_0
    try clear hcz9_1
    try clear hcz9_2
    try clear hfz11_0
    try clear hfz11_1
    try clear hfz11_2
    try clear hfz13_0
    try clear hfz13_1
    try clear hfz13_2
    try clear hfz14_0
    try clear hfz14_1
    try clear hfz14_2
    try clear hfz9_0
    try clear hfz9_1
    try clear hfz9_2
    obtain ⟨kq, x41_4, rfl, HA, HJ4, BK169, HB⟩ := hcut
    cases kq with
    | zero => exact absurd HA.out (by simp [copyholdlaw04_DiskReads.j0])
    | succ kj4 =>
      have H := HA.out
      clear HA
      simp only [copyholdlaw04_DiskReads.j0] at H
      by_cases c15 : x41_4 = true
      · subst c15
        have H1 : (some t170) = some r := by rw [if_pos rfl] at H; exact H
        clear H
        have H := H1
        clear H1
        obtain rfl := Option.some.inj H
        go_wp2
        go_ret
        exact ⟨by first | rfl | (simp [errW_none, errW_some] <;> rfl) | (simp [*, errW_none, errW_some] <;> rfl), by repeat (first | (with_reducible first | exact HB.out | apply below_alloc | apply pw_below_drewN | apply below_drew1 | refine below_set ?_ GE169.out) | exact HB.out)⟩
      · replace c15 := Bool.eq_false_iff.mpr c15
        subst c15
        have H1 : ((disk_New.f a2).bind fun bt171 => ((copyholdref04_New.f kj4 a2).bind fun bt180 => ((copyholdref04_Same.f kj4 bt171.1 bt171.2.1 bt171.2.2.1 bt180.1 bt180.2.1 bt180.2.2.1).bind fun t189 => ((copyholdref04_Right.f kj4 l0_0 l0_1 a0_2).bind fun t190 => (if t189 = true then (if bt171.2.2.2 = bt180.2.2.2 then ((disk_Right.f l0_0 l0_1 a0_2).bind fun t191 => (copyholdlaw04_DiskReads.j1 kj4 a1 a2 t170 t190 (t191 != t190) l0_0 l0_1 a0_2)) else (copyholdlaw04_DiskReads.j1 kj4 a1 a2 t170 t190 true l0_0 l0_1 a0_2)) else (copyholdlaw04_DiskReads.j1 kj4 a1 a2 t170 t190 true l0_0 l0_1 a0_2)))))) = some r := by rw [if_neg (show ¬ (false = true) by decide)] at H; exact H
        clear H
        have H := H1
        clear H1
        replace H := Option.bind_eq_some_iff.mp H
        obtain ⟨⟨t171, t174, t177, t178⟩, A160, H⟩ := H
        replace H : ((copyholdref04_New.f kj4 a2).bind fun bt180 => ((copyholdref04_Same.f kj4 t171 t174 t177 bt180.1 bt180.2.1 bt180.2.2.1).bind fun t189 => ((copyholdref04_Right.f kj4 l0_0 l0_1 a0_2).bind fun t190 => (if t189 = true then (if t178 = bt180.2.2.2 then ((disk_Right.f l0_0 l0_1 a0_2).bind fun t191 => (copyholdlaw04_DiskReads.j1 kj4 a1 a2 t170 t190 (t191 != t190) l0_0 l0_1 a0_2)) else (copyholdlaw04_DiskReads.j1 kj4 a1 a2 t170 t190 true l0_0 l0_1 a0_2)) else (copyholdlaw04_DiskReads.j1 kj4 a1 a2 t170 t190 true l0_0 l0_1 a0_2))))) = some r := H
        have A16 := Aside0.mk A160
        clear A160
        replace H := Option.bind_eq_some_iff.mp H
        obtain ⟨⟨t180, t183, t186, t187⟩, A170, H⟩ := H
        replace H : ((copyholdref04_Same.f kj4 t171 t174 t177 t180 t183 t186).bind fun t189 => ((copyholdref04_Right.f kj4 l0_0 l0_1 a0_2).bind fun t190 => (if t189 = true then (if t178 = t187 then ((disk_Right.f l0_0 l0_1 a0_2).bind fun t191 => (copyholdlaw04_DiskReads.j1 kj4 a1 a2 t170 t190 (t191 != t190) l0_0 l0_1 a0_2)) else (copyholdlaw04_DiskReads.j1 kj4 a1 a2 t170 t190 true l0_0 l0_1 a0_2)) else (copyholdlaw04_DiskReads.j1 kj4 a1 a2 t170 t190 true l0_0 l0_1 a0_2)))) = some r := H
        have A17 := Aside0.mk A170
        clear A170
        replace H := Option.bind_eq_some_iff.mp H
        obtain ⟨t189, A180, H⟩ := H
        replace H : ((copyholdref04_Right.f kj4 l0_0 l0_1 a0_2).bind fun t190 => (if t189 = true then (if t178 = t187 then ((disk_Right.f l0_0 l0_1 a0_2).bind fun t191 => (copyholdlaw04_DiskReads.j1 kj4 a1 a2 t170 t190 (t191 != t190) l0_0 l0_1 a0_2)) else (copyholdlaw04_DiskReads.j1 kj4 a1 a2 t170 t190 true l0_0 l0_1 a0_2)) else (copyholdlaw04_DiskReads.j1 kj4 a1 a2 t170 t190 true l0_0 l0_1 a0_2))) = some r := H
        have A18 := Aside0.mk A180
        clear A180
        replace H := Option.bind_eq_some_iff.mp H
        obtain ⟨t190, A190, H⟩ := H
        replace H : (if t189 = true then (if t178 = t187 then ((disk_Right.f l0_0 l0_1 a0_2).bind fun t191 => (copyholdlaw04_DiskReads.j1 kj4 a1 a2 t170 t190 (t191 != t190) l0_0 l0_1 a0_2)) else (copyholdlaw04_DiskReads.j1 kj4 a1 a2 t170 t190 true l0_0 l0_1 a0_2)) else (copyholdlaw04_DiskReads.j1 kj4 a1 a2 t170 t190 true l0_0 l0_1 a0_2)) = some r := H
        have A19 := Aside0.mk A190
        clear A190
        have HC20 := Aside0.mk H
        clear H
        go_upto_region 8 with (first | ((with_reducible refine gate_callee (f := 23) rfl ?_); refine goesL_ (some 45) rfl rfl Try.func23 (by kernel_rfl) rfl #[.int .i64 a2] rfl (by (try simp only [List.map_toArray, List.map_cons, List.map_nil]); first | done | rfl | (simp only [List.length_drop, List.length_take]; rfl)) ?_; (with_reducible refine (disk_New.calls a2 t171 t174 t177 t178 _ A16.out).mono ?_); rintro e w21 ⟨v172, v175, rfl, ho0, ho1, hb⟩; refine ⟨_, rfl, ?_⟩; have n0_ := Aside0.mk (Kd.R_lower ho0 (below_size (by repeat (first | (with_reducible first | exact HB.out | apply below_alloc | apply pw_below_drewN | apply below_drew1 | refine below_set ?_ GE169.out) | exact HB.out)))); have n1_ := Aside0.mk (Kd.R_lower ho1 (below_size (by repeat (first | (with_reducible first | exact HB.out | apply below_alloc | apply pw_below_drewN | apply below_drew1 | refine below_set ?_ GE169.out) | exact HB.out)))); have n2_ := Aside0.mk (blk_below (g := gb169) (o := .cells #[.slice A0_0 l0_0.length c0_0, .slice A0_1 l0_1.length c0_1, .bool a0_2] 25 (0, 0)) (by (with_reducible repeat (first | refine blk_drewN ?_ _ | refine blk_drew ?_ | refine blk_alloc ?_ _)); exact BK169.out) hb); have n3_ := Aside0.mk (below_step (by repeat (first | (with_reducible first | exact HB.out | apply below_alloc | apply pw_below_drewN | apply below_drew1 | refine below_set ?_ GE169.out) | exact HB.out)) hb); clear BK169; clear HB; have HO173 := n0_; have HO176 := n1_; have BK169 := n2_; have HB := n3_; clear n0_ n1_ n2_ n3_; (try clear hb); (try clear hb2); (try clear hk); (try clear hi); (try clear ho0); (try clear ho1)) | ((with_reducible refine gate_dst (N := 8) rfl ?_); (try (refine gate_guard (by rfl) ?_; dsimp only)); refine box_event ?hg (N := 8) ?hd (cs := #[.slice none 0 0, .slice none 0 0, .bool false]) (t := 25) ?hr ?_; (case hd => rfl); (case hg => rfl); (case hr => first | (go_simp; done) | (go_simp; rfl)); intro gb179 hg w22 hbox hb; have n0_ := Aside0.mk (Kd.R_below (by (with_reducible repeat (first | apply Kd.R_alloc | apply Kd.R_drewN | apply Kd.R_drew)); exact HO173.out) hb); have n1_ := Aside0.mk (Kd.R_below (by (with_reducible repeat (first | apply Kd.R_alloc | apply Kd.R_drewN | apply Kd.R_drew)); exact HO176.out) hb); have n2_ := Aside0.mk (blk_below (g := gb169) (o := .cells #[.slice A0_0 l0_0.length c0_0, .slice A0_1 l0_1.length c0_1, .bool a0_2] 25 (0, 0)) (by (with_reducible repeat (first | refine blk_drewN ?_ _ | refine blk_drew ?_ | refine blk_alloc ?_ _)); exact BK169.out) hb); have n3_ := Aside0.mk (below_step (by repeat (first | (with_reducible first | exact HB.out | apply below_alloc | apply pw_below_drewN | apply below_drew1 | refine below_set ?_ GE169.out) | exact HB.out)) hb); have n4_ := Aside0.mk (hbox); have n5_ := Aside0.mk ((by rw [hg]; exact (below_size (by repeat (first | (with_reducible first | exact HB.out | apply below_alloc | apply pw_below_drewN | apply below_drew1 | refine below_set ?_ GE169.out) | exact HB.out))) : w.heap.size ≤ gb179)); have n6_ := Aside0.mk ((by rw [hg]; exact (below_size (by repeat (first | (with_reducible first | exact HB.out | apply below_alloc | apply pw_below_drewN | apply below_drew1 | refine below_set ?_ GE169.out) | exact HB.out))) : w.heap.size ≤ gb179)); have n7_ := Aside0.mk ((by rw [hg]; exact Nat.ne_of_lt (blk_lt (g := gb169) (o := .cells #[.slice A0_0 l0_0.length c0_0, .slice A0_1 l0_1.length c0_1, .bool a0_2] 25 (0, 0)) (by (with_reducible repeat (first | refine blk_drewN ?_ _ | refine blk_drew ?_ | refine blk_alloc ?_ _)); exact BK169.out)) : gb169 ≠ gb179)); have n8_ := Aside0.mk ((by rw [hg]; exact Nat.ne_of_gt (blk_lt (g := gb169) (o := .cells #[.slice A0_0 l0_0.length c0_0, .slice A0_1 l0_1.length c0_1, .bool a0_2] 25 (0, 0)) (by (with_reducible repeat (first | refine blk_drewN ?_ _ | refine blk_drew ?_ | refine blk_alloc ?_ _)); exact BK169.out)) : gb179 ≠ gb169)); clear HO173; clear HO176; clear BK169; clear HB; have HO173 := n0_; have HO176 := n1_; have BK169 := n2_; have HB := n3_; have BK179 := n4_; have GW179 := n5_; have GE179 := n6_; have NB169_179 := n7_; have NB179_169 := n8_; clear n0_ n1_ n2_ n3_ n4_ n5_ n6_ n7_ n8_; clear hb hbox hg; obtain ⟨Ao23, co23, eo23⟩ := Kd.R_slice HO173.out; subst eo23; have hnb24 := NB179_169.out; have hnc24 := NB169_179.out; have hcz25_0 : w22.cell? ⟨gb179, 0, none⟩ = some (.slice none 0 0) := (blk_cell BK179.out 0).trans rfl; have hcz25_1 : w22.cell? ⟨gb179, 1, none⟩ = some (.slice none 0 0) := (blk_cell BK179.out 1).trans rfl; have hcz25_2 : w22.cell? ⟨gb179, 2, none⟩ = some (.bool false) := (blk_cell BK179.out 2).trans rfl; have hfz25_0 := blk_frozen BK179.out 0; have hfz25_1 := blk_frozen BK179.out 1; have hfz25_2 := blk_frozen BK179.out 2; obtain ⟨Ao26, co26, eo26⟩ := Kd.R_slice HO176.out; subst eo26) | ((with_reducible refine gate_callee (f := 24) rfl ?_); refine goesL_ (some 50) rfl rfl Try.func24 (by kernel_rfl) rfl #[.int .i64 a2] rfl (by (try simp only [List.map_toArray, List.map_cons, List.map_nil]); first | done | rfl | (simp only [List.length_drop, List.length_take]; rfl)) ?_; (with_reducible refine (copyholdref04_New.calls kj4 a2 t180 t183 t186 t187 _ A17.out).mono ?_); rintro e w27 ⟨v181, v184, rfl, ho0, ho1, hb⟩; refine ⟨_, rfl, ?_⟩; have n0_ := Aside0.mk (Kd.R_elder' (by (with_reducible repeat (first | apply Kd.R_alloc | apply Kd.R_drewN | apply Kd.R_drew)); exact (Kd.R_mono (Kd.R_far (p := ⟨gb179, 2, none⟩) (Kd.R_far (p := ⟨gb179, 1, none⟩) (Kd.R_far (p := ⟨gb179, 0, none⟩) (Kd.R_types HO173.out BK179.out (by decide)) (fun _ hk => hk.2) (.slice Ao23 t171.length co23)) (fun _ hk => hk.2) (.slice Ao26 t174.length co26)) (fun _ hk => hk.2) (.bool t177)) (fun _ h_ => h_.1))) (Kd.R_base ho0) hb); have n1_ := Aside0.mk (Kd.R_elder' (by (with_reducible repeat (first | apply Kd.R_alloc | apply Kd.R_drewN | apply Kd.R_drew)); exact (Kd.R_mono (Kd.R_far (p := ⟨gb179, 2, none⟩) (Kd.R_far (p := ⟨gb179, 1, none⟩) (Kd.R_far (p := ⟨gb179, 0, none⟩) (Kd.R_types HO176.out BK179.out (by decide)) (fun _ hk => hk.2) (.slice Ao23 t171.length co23)) (fun _ hk => hk.2) (.slice Ao26 t174.length co26)) (fun _ hk => hk.2) (.bool t177)) (fun _ h_ => h_.1))) (Kd.R_base ho1) hb); have n2_ := Aside0.mk (Kd.R_lower (Kd.R_new' ho0 (Kd.R_lt (by (with_reducible repeat (first | apply Kd.R_alloc | apply Kd.R_drewN | apply Kd.R_drew)); exact (Kd.R_mono (Kd.R_far (p := ⟨gb179, 2, none⟩) (Kd.R_far (p := ⟨gb179, 1, none⟩) (Kd.R_far (p := ⟨gb179, 0, none⟩) (Kd.R_types HO173.out BK179.out (by decide)) (fun _ hk => hk.2) (.slice Ao23 t171.length co23)) (fun _ hk => hk.2) (.slice Ao26 t174.length co26)) (fun _ hk => hk.2) (.bool t177)) (fun _ h_ => h_.1))))) (below_size (by repeat (first | (with_reducible first | exact HB.out | apply below_alloc | apply pw_below_drewN | apply below_drew1 | refine below_set ?_ GE169.out | refine below_set ?_ GE179.out) | exact HB.out)))); have n3_ := Aside0.mk (Kd.R_lower (Kd.R_new' ho1 (Kd.R_lt (by (with_reducible repeat (first | apply Kd.R_alloc | apply Kd.R_drewN | apply Kd.R_drew)); exact (Kd.R_mono (Kd.R_far (p := ⟨gb179, 2, none⟩) (Kd.R_far (p := ⟨gb179, 1, none⟩) (Kd.R_far (p := ⟨gb179, 0, none⟩) (Kd.R_types HO176.out BK179.out (by decide)) (fun _ hk => hk.2) (.slice Ao23 t171.length co23)) (fun _ hk => hk.2) (.slice Ao26 t174.length co26)) (fun _ hk => hk.2) (.bool t177)) (fun _ h_ => h_.1))))) (below_size (by repeat (first | (with_reducible first | exact HB.out | apply below_alloc | apply pw_below_drewN | apply below_drew1 | refine below_set ?_ GE169.out | refine below_set ?_ GE179.out) | exact HB.out)))); have n4_ := Aside0.mk (blk_below (g := gb169) (o := .cells #[.slice A0_0 l0_0.length c0_0, .slice A0_1 l0_1.length c0_1, .bool a0_2] 25 (0, 0)) (by (with_reducible repeat (first | refine blk_drewN ?_ _ | refine blk_drew ?_ | refine blk_alloc ?_ _)); refine blk_far ?_ NB169_179.out _; (with_reducible repeat (first | refine blk_drewN ?_ _ | refine blk_drew ?_ | refine blk_alloc ?_ _)); refine blk_far ?_ NB169_179.out _; (with_reducible repeat (first | refine blk_drewN ?_ _ | refine blk_drew ?_ | refine blk_alloc ?_ _)); refine blk_far ?_ NB169_179.out _; (with_reducible repeat (first | refine blk_drewN ?_ _ | refine blk_drew ?_ | refine blk_alloc ?_ _)); exact BK169.out) hb); have n5_ := Aside0.mk (blk_below (g := gb179) (o := .cells #[.slice Ao23 t171.length co23, .slice Ao26 t174.length co26, .bool t177] 25 (0, 0)) (by (with_reducible repeat (first | refine blk_drewN ?_ _ | refine blk_drew ?_ | refine blk_alloc ?_ _)); refine blk_put (cs := #[.slice Ao23 t171.length co23, .slice Ao26 t174.length co26, .bool false]) ?_ 2 _ rfl; (with_reducible repeat (first | refine blk_drewN ?_ _ | refine blk_drew ?_ | refine blk_alloc ?_ _)); refine blk_put (cs := #[.slice Ao23 t171.length co23, .slice none 0 0, .bool false]) ?_ 1 _ rfl; (with_reducible repeat (first | refine blk_drewN ?_ _ | refine blk_drew ?_ | refine blk_alloc ?_ _)); refine blk_put (cs := #[.slice none 0 0, .slice none 0 0, .bool false]) ?_ 0 _ rfl; (with_reducible repeat (first | refine blk_drewN ?_ _ | refine blk_drew ?_ | refine blk_alloc ?_ _)); exact BK179.out) hb); have n6_ := Aside0.mk (below_step (by repeat (first | (with_reducible first | exact HB.out | apply below_alloc | apply pw_below_drewN | apply below_drew1 | refine below_set ?_ GE169.out | refine below_set ?_ GE179.out) | exact HB.out)) hb); clear HO173; clear HO176; clear BK169; clear BK179; clear HB; have HO173 := n0_; have HO176 := n1_; have HO182 := n2_; have HO185 := n3_; have BK169 := n4_; have BK179 := n5_; have HB := n6_; clear n0_ n1_ n2_ n3_ n4_ n5_ n6_; (try clear hb); (try clear hb2); (try clear hk); (try clear hi); (try clear ho0); (try clear ho1)) | ((with_reducible refine gate_dst (N := 10) rfl ?_); (try (refine gate_guard (by rfl) ?_; dsimp only)); refine box_event ?hg (N := 10) ?hd (cs := #[.slice none 0 0, .slice none 0 0, .bool false]) (t := 25) ?hr ?_; (case hd => rfl); (case hg => rfl); (case hr => first | (go_simp; done) | (go_simp; rfl)); intro gb188 hg w28 hbox hb; have n0_ := Aside0.mk (Kd.R_below (by (with_reducible repeat (first | apply Kd.R_alloc | apply Kd.R_drewN | apply Kd.R_drew)); exact HO173.out) hb); have n1_ := Aside0.mk (Kd.R_below (by (with_reducible repeat (first | apply Kd.R_alloc | apply Kd.R_drewN | apply Kd.R_drew)); exact HO176.out) hb); have n2_ := Aside0.mk (Kd.R_below (by (with_reducible repeat (first | apply Kd.R_alloc | apply Kd.R_drewN | apply Kd.R_drew)); exact HO182.out) hb); have n3_ := Aside0.mk (Kd.R_below (by (with_reducible repeat (first | apply Kd.R_alloc | apply Kd.R_drewN | apply Kd.R_drew)); exact HO185.out) hb); have n4_ := Aside0.mk (blk_below (g := gb169) (o := .cells #[.slice A0_0 l0_0.length c0_0, .slice A0_1 l0_1.length c0_1, .bool a0_2] 25 (0, 0)) (by (with_reducible repeat (first | refine blk_drewN ?_ _ | refine blk_drew ?_ | refine blk_alloc ?_ _)); exact BK169.out) hb); have n5_ := Aside0.mk (blk_below (g := gb179) (o := .cells #[.slice Ao23 t171.length co23, .slice Ao26 t174.length co26, .bool t177] 25 (0, 0)) (by (with_reducible repeat (first | refine blk_drewN ?_ _ | refine blk_drew ?_ | refine blk_alloc ?_ _)); exact BK179.out) hb); have n6_ := Aside0.mk (below_step (by repeat (first | (with_reducible first | exact HB.out | apply below_alloc | apply pw_below_drewN | apply below_drew1 | refine below_set ?_ GE169.out | refine below_set ?_ GE179.out) | exact HB.out)) hb); have n7_ := Aside0.mk (hbox); have n8_ := Aside0.mk ((by rw [hg]; exact (below_size (by repeat (first | (with_reducible first | exact HB.out | apply below_alloc | apply pw_below_drewN | apply below_drew1 | refine below_set ?_ GE169.out | refine below_set ?_ GE179.out) | exact HB.out))) : w.heap.size ≤ gb188)); have n9_ := Aside0.mk ((by rw [hg]; exact (below_size (by repeat (first | (with_reducible first | exact HB.out | apply below_alloc | apply pw_below_drewN | apply below_drew1 | refine below_set ?_ GE169.out | refine below_set ?_ GE179.out) | exact HB.out))) : w.heap.size ≤ gb188)); have n10_ := Aside0.mk ((by rw [hg]; exact Nat.ne_of_lt (blk_lt (g := gb169) (o := .cells #[.slice A0_0 l0_0.length c0_0, .slice A0_1 l0_1.length c0_1, .bool a0_2] 25 (0, 0)) (by (with_reducible repeat (first | refine blk_drewN ?_ _ | refine blk_drew ?_ | refine blk_alloc ?_ _)); exact BK169.out)) : gb169 ≠ gb188)); have n11_ := Aside0.mk ((by rw [hg]; exact Nat.ne_of_gt (blk_lt (g := gb169) (o := .cells #[.slice A0_0 l0_0.length c0_0, .slice A0_1 l0_1.length c0_1, .bool a0_2] 25 (0, 0)) (by (with_reducible repeat (first | refine blk_drewN ?_ _ | refine blk_drew ?_ | refine blk_alloc ?_ _)); exact BK169.out)) : gb188 ≠ gb169)); have n12_ := Aside0.mk ((by rw [hg]; exact Nat.ne_of_lt (blk_lt (g := gb179) (o := .cells #[.slice Ao23 t171.length co23, .slice Ao26 t174.length co26, .bool t177] 25 (0, 0)) (by (with_reducible repeat (first | refine blk_drewN ?_ _ | refine blk_drew ?_ | refine blk_alloc ?_ _)); exact BK179.out)) : gb179 ≠ gb188)); have n13_ := Aside0.mk ((by rw [hg]; exact Nat.ne_of_gt (blk_lt (g := gb179) (o := .cells #[.slice Ao23 t171.length co23, .slice Ao26 t174.length co26, .bool t177] 25 (0, 0)) (by (with_reducible repeat (first | refine blk_drewN ?_ _ | refine blk_drew ?_ | refine blk_alloc ?_ _)); exact BK179.out)) : gb188 ≠ gb179)); clear HO173; clear HO176; clear HO182; clear HO185; clear BK169; clear BK179; clear HB; have HO173 := n0_; have HO176 := n1_; have HO182 := n2_; have HO185 := n3_; have BK169 := n4_; have BK179 := n5_; have HB := n6_; have BK188 := n7_; have GW188 := n8_; have GE188 := n9_; have NB169_188 := n10_; have NB188_169 := n11_; have NB179_188 := n12_; have NB188_179 := n13_; clear n0_ n1_ n2_ n3_ n4_ n5_ n6_ n7_ n8_ n9_ n10_ n11_ n12_ n13_; clear hb hbox hg; obtain ⟨Ao29, co29, eo29⟩ := Kd.R_slice HO182.out; subst eo29; have hnb30 := NB188_169.out; have hnc30 := NB169_188.out; have hnb31 := NB188_179.out; have hnc31 := NB179_188.out; have hcz32_0 : w28.cell? ⟨gb188, 0, none⟩ = some (.slice none 0 0) := (blk_cell BK188.out 0).trans rfl; have hcz32_1 : w28.cell? ⟨gb188, 1, none⟩ = some (.slice none 0 0) := (blk_cell BK188.out 1).trans rfl; have hcz32_2 : w28.cell? ⟨gb188, 2, none⟩ = some (.bool false) := (blk_cell BK188.out 2).trans rfl; have hfz32_0 := blk_frozen BK188.out 0; have hfz32_1 := blk_frozen BK188.out 1; have hfz32_2 := blk_frozen BK188.out 2; obtain ⟨Ao33, co33, eo33⟩ := Kd.R_slice HO185.out; subst eo33; have hcz34_0 : w28.cell? ⟨gb179, 0, none⟩ = some (.slice Ao23 t171.length co23) := (blk_cell BK179.out 0).trans rfl; have hcz34_1 : w28.cell? ⟨gb179, 1, none⟩ = some (.slice Ao26 t174.length co26) := (blk_cell BK179.out 1).trans rfl; have hcz34_2 : w28.cell? ⟨gb179, 2, none⟩ = some (.bool t177) := (blk_cell BK179.out 2).trans rfl; have hfz34_0 := blk_frozen BK179.out 0; have hfz34_1 := blk_frozen BK179.out 1; have hfz34_2 := blk_frozen BK179.out 2) | ((with_reducible refine gate_callee (f := 16) rfl ?_); refine goesL_ (some 55) rfl rfl Try.func16 (by kernel_rfl) rfl #[.agg #[.slice Ao23 t171.length co23, .slice Ao26 t174.length co26, .bool t177], .agg #[.slice Ao29 t180.length co29, .slice Ao33 t183.length co33, .bool t186]] rfl (by (try simp only [List.map_toArray, List.map_cons, List.map_nil]); first | done | rfl | (simp only [List.length_drop, List.length_take]; rfl)) ?_; (with_reducible refine (copyholdref04_Same.calls kj4 _ _ t171 _ _ t174 t177 _ _ t180 _ _ t183 t186 t189 _ ?side1 ?side2 ?side3 ?side4 ?side5 ?side6 ?side7 ?side8 A18.out).mono ?_); (case side1 => refine (Kd.R_reads' (e := 9) (base := w.heap.size) (ok := fun k_ => (True ∧ some k_ ≠ (.slice Ao29 t180.length co29 : Value).ownBlock)) (n := t171.length) (c := co23) ?_).2.2; exact (by (with_reducible repeat (first | apply Kd.R_alloc | apply Kd.R_drewN | apply Kd.R_drew)); exact (Kd.R_mono (Kd.R_far (p := ⟨gb188, 2, none⟩) (Kd.R_far (p := ⟨gb188, 1, none⟩) (Kd.R_far (p := ⟨gb188, 0, none⟩) (Kd.R_types HO173.out BK188.out (by decide)) (fun _ hk => hk.2) (.slice Ao29 t180.length co29)) (fun _ hk => hk.2) (.slice Ao33 t183.length co33)) (fun _ hk => hk.2) (.bool t186)) (fun _ h_ => h_.1)))); (case side2 => exact (Kd.R_reads' HO173.out).2.1); (case side3 => refine (Kd.R_reads' (e := 31) (base := w.heap.size) (ok := fun k_ => (True ∧ some k_ ≠ (.slice Ao33 t183.length co33 : Value).ownBlock)) (n := t174.length) (c := co26) ?_).2.2; exact (by (with_reducible repeat (first | apply Kd.R_alloc | apply Kd.R_drewN | apply Kd.R_drew)); exact (Kd.R_mono (Kd.R_far (p := ⟨gb188, 2, none⟩) (Kd.R_far (p := ⟨gb188, 1, none⟩) (Kd.R_far (p := ⟨gb188, 0, none⟩) (Kd.R_types HO176.out BK188.out (by decide)) (fun _ hk => hk.2) (.slice Ao29 t180.length co29)) (fun _ hk => hk.2) (.slice Ao33 t183.length co33)) (fun _ hk => hk.2) (.bool t186)) (fun _ h_ => h_.1)))); (case side4 => exact (Kd.R_reads' HO176.out).2.1); (case side5 => refine (Kd.R_reads' (e := 9) (base := w.heap.size) (ok := fun k_ => (True ∧ some k_ ≠ (.slice Ao23 t171.length co23 : Value).ownBlock)) (n := t180.length) (c := co29) ?_).2.2; exact (by (with_reducible repeat (first | apply Kd.R_alloc | apply Kd.R_drewN | apply Kd.R_drew)); exact (Kd.R_mono (Kd.R_far (p := ⟨gb188, 2, none⟩) (Kd.R_far (p := ⟨gb188, 1, none⟩) (Kd.R_far (p := ⟨gb188, 0, none⟩) (Kd.R_types HO182.out BK188.out (by decide)) (fun _ hk => hk.2) (.slice Ao29 t180.length co29)) (fun _ hk => hk.2) (.slice Ao33 t183.length co33)) (fun _ hk => hk.2) (.bool t186)) (fun _ h_ => h_.1)))); (case side6 => exact (Kd.R_reads' HO182.out).2.1); (case side7 => refine (Kd.R_reads' (e := 31) (base := w.heap.size) (ok := fun k_ => (True ∧ some k_ ≠ (.slice Ao26 t174.length co26 : Value).ownBlock)) (n := t183.length) (c := co33) ?_).2.2; exact (by (with_reducible repeat (first | apply Kd.R_alloc | apply Kd.R_drewN | apply Kd.R_drew)); exact (Kd.R_mono (Kd.R_far (p := ⟨gb188, 2, none⟩) (Kd.R_far (p := ⟨gb188, 1, none⟩) (Kd.R_far (p := ⟨gb188, 0, none⟩) (Kd.R_types HO185.out BK188.out (by decide)) (fun _ hk => hk.2) (.slice Ao29 t180.length co29)) (fun _ hk => hk.2) (.slice Ao33 t183.length co33)) (fun _ hk => hk.2) (.bool t186)) (fun _ h_ => h_.1)))); (case side8 => exact (Kd.R_reads' HO185.out).2.1); rintro e w35 ⟨rfl, hb⟩; refine ⟨_, rfl, ?_⟩; have n0_ := Aside0.mk (Kd.R_below (by (with_reducible repeat (first | apply Kd.R_alloc | apply Kd.R_drewN | apply Kd.R_drew)); exact (Kd.R_mono (Kd.R_far (p := ⟨gb188, 2, none⟩) (Kd.R_far (p := ⟨gb188, 1, none⟩) (Kd.R_far (p := ⟨gb188, 0, none⟩) (Kd.R_types HO173.out BK188.out (by decide)) (fun _ hk => hk.2) (.slice Ao29 t180.length co29)) (fun _ hk => hk.2) (.slice Ao33 t183.length co33)) (fun _ hk => hk.2) (.bool t186)) (fun _ h_ => h_.1))) hb); have n1_ := Aside0.mk (Kd.R_below (by (with_reducible repeat (first | apply Kd.R_alloc | apply Kd.R_drewN | apply Kd.R_drew)); exact (Kd.R_mono (Kd.R_far (p := ⟨gb188, 2, none⟩) (Kd.R_far (p := ⟨gb188, 1, none⟩) (Kd.R_far (p := ⟨gb188, 0, none⟩) (Kd.R_types HO176.out BK188.out (by decide)) (fun _ hk => hk.2) (.slice Ao29 t180.length co29)) (fun _ hk => hk.2) (.slice Ao33 t183.length co33)) (fun _ hk => hk.2) (.bool t186)) (fun _ h_ => h_.1))) hb); have n2_ := Aside0.mk (Kd.R_below (by (with_reducible repeat (first | apply Kd.R_alloc | apply Kd.R_drewN | apply Kd.R_drew)); exact (Kd.R_mono (Kd.R_far (p := ⟨gb188, 2, none⟩) (Kd.R_far (p := ⟨gb188, 1, none⟩) (Kd.R_far (p := ⟨gb188, 0, none⟩) (Kd.R_types HO182.out BK188.out (by decide)) (fun _ hk => hk.2) (.slice Ao29 t180.length co29)) (fun _ hk => hk.2) (.slice Ao33 t183.length co33)) (fun _ hk => hk.2) (.bool t186)) (fun _ h_ => h_.1))) hb); have n3_ := Aside0.mk (Kd.R_below (by (with_reducible repeat (first | apply Kd.R_alloc | apply Kd.R_drewN | apply Kd.R_drew)); exact (Kd.R_mono (Kd.R_far (p := ⟨gb188, 2, none⟩) (Kd.R_far (p := ⟨gb188, 1, none⟩) (Kd.R_far (p := ⟨gb188, 0, none⟩) (Kd.R_types HO185.out BK188.out (by decide)) (fun _ hk => hk.2) (.slice Ao29 t180.length co29)) (fun _ hk => hk.2) (.slice Ao33 t183.length co33)) (fun _ hk => hk.2) (.bool t186)) (fun _ h_ => h_.1))) hb); have n4_ := Aside0.mk (blk_below (g := gb169) (o := .cells #[.slice A0_0 l0_0.length c0_0, .slice A0_1 l0_1.length c0_1, .bool a0_2] 25 (0, 0)) (by (with_reducible repeat (first | refine blk_drewN ?_ _ | refine blk_drew ?_ | refine blk_alloc ?_ _)); refine blk_far ?_ NB169_188.out _; (with_reducible repeat (first | refine blk_drewN ?_ _ | refine blk_drew ?_ | refine blk_alloc ?_ _)); refine blk_far ?_ NB169_188.out _; (with_reducible repeat (first | refine blk_drewN ?_ _ | refine blk_drew ?_ | refine blk_alloc ?_ _)); refine blk_far ?_ NB169_188.out _; (with_reducible repeat (first | refine blk_drewN ?_ _ | refine blk_drew ?_ | refine blk_alloc ?_ _)); exact BK169.out) hb); have n5_ := Aside0.mk (blk_below (g := gb179) (o := .cells #[.slice Ao23 t171.length co23, .slice Ao26 t174.length co26, .bool t177] 25 (0, 0)) (by (with_reducible repeat (first | refine blk_drewN ?_ _ | refine blk_drew ?_ | refine blk_alloc ?_ _)); refine blk_far ?_ NB179_188.out _; (with_reducible repeat (first | refine blk_drewN ?_ _ | refine blk_drew ?_ | refine blk_alloc ?_ _)); refine blk_far ?_ NB179_188.out _; (with_reducible repeat (first | refine blk_drewN ?_ _ | refine blk_drew ?_ | refine blk_alloc ?_ _)); refine blk_far ?_ NB179_188.out _; (with_reducible repeat (first | refine blk_drewN ?_ _ | refine blk_drew ?_ | refine blk_alloc ?_ _)); exact BK179.out) hb); have n6_ := Aside0.mk (blk_below (g := gb188) (o := .cells #[.slice Ao29 t180.length co29, .slice Ao33 t183.length co33, .bool t186] 25 (0, 0)) (by (with_reducible repeat (first | refine blk_drewN ?_ _ | refine blk_drew ?_ | refine blk_alloc ?_ _)); refine blk_put (cs := #[.slice Ao29 t180.length co29, .slice Ao33 t183.length co33, .bool false]) ?_ 2 _ rfl; (with_reducible repeat (first | refine blk_drewN ?_ _ | refine blk_drew ?_ | refine blk_alloc ?_ _)); refine blk_put (cs := #[.slice Ao29 t180.length co29, .slice none 0 0, .bool false]) ?_ 1 _ rfl; (with_reducible repeat (first | refine blk_drewN ?_ _ | refine blk_drew ?_ | refine blk_alloc ?_ _)); refine blk_put (cs := #[.slice none 0 0, .slice none 0 0, .bool false]) ?_ 0 _ rfl; (with_reducible repeat (first | refine blk_drewN ?_ _ | refine blk_drew ?_ | refine blk_alloc ?_ _)); exact BK188.out) hb); have n7_ := Aside0.mk (below_step (by repeat (first | (with_reducible first | exact HB.out | apply below_alloc | apply pw_below_drewN | apply below_drew1 | refine below_set ?_ GE169.out | refine below_set ?_ GE179.out | refine below_set ?_ GE188.out) | exact HB.out)) hb); clear HO173; clear HO176; clear HO182; clear HO185; clear BK169; clear BK179; clear BK188; clear HB; have HO173 := n0_; have HO176 := n1_; have HO182 := n2_; have HO185 := n3_; have BK169 := n4_; have BK179 := n5_; have BK188 := n6_; have HB := n7_; clear n0_ n1_ n2_ n3_ n4_ n5_ n6_ n7_; (try clear hb); (try clear hb2); (try clear hk); (try clear hi); have hcz36_0 : w35.cell? ⟨gb169, 0, none⟩ = some (.slice A0_0 l0_0.length c0_0) := (blk_cell BK169.out 0).trans rfl; have hcz36_1 : w35.cell? ⟨gb169, 1, none⟩ = some (.slice A0_1 l0_1.length c0_1) := (blk_cell BK169.out 1).trans rfl; have hcz36_2 : w35.cell? ⟨gb169, 2, none⟩ = some (.bool a0_2) := (blk_cell BK169.out 2).trans rfl; have hfz36_0 := blk_frozen BK169.out 0; have hfz36_1 := blk_frozen BK169.out 1; have hfz36_2 := blk_frozen BK169.out 2) | ((with_reducible refine gate_callee (f := 20) rfl ?_); refine goesL_ (some 57) rfl rfl Try.func20 (by kernel_rfl) rfl #[.agg #[.slice A0_0 l0_0.length c0_0, .slice A0_1 l0_1.length c0_1, .bool a0_2]] rfl (by (try simp only [List.map_toArray, List.map_cons, List.map_nil]); first | done | rfl | (simp only [List.length_drop, List.length_take]; rfl)) ?_; (with_reducible refine (copyholdref04_Right.calls kj4 _ _ l0_0 _ _ l0_1 a0_2 t190 _ ?side1 ?side2 ?side3 ?side4 A19.out).mono ?_); (case side1 => repeat (first | exact (Kd.C_below HR0_0.out HB.out) | (with_reducible refine Kd.C_alloc ?_ _) | (with_reducible refine Kd.C_drewN ?_ _) | (with_reducible refine Kd.C_drew ?_))); (case side2 => exact HC0_0.out); (case side3 => repeat (first | exact (Kd.C_below HR0_1.out HB.out) | (with_reducible refine Kd.C_alloc ?_ _) | (with_reducible refine Kd.C_drewN ?_ _) | (with_reducible refine Kd.C_drew ?_))); (case side4 => exact HC0_1.out); rintro e w37 ⟨rfl, hb⟩; refine ⟨_, rfl, ?_⟩; have n0_ := Aside0.mk (Kd.R_below (by (with_reducible repeat (first | apply Kd.R_alloc | apply Kd.R_drewN | apply Kd.R_drew)); exact HO173.out) hb); have n1_ := Aside0.mk (Kd.R_below (by (with_reducible repeat (first | apply Kd.R_alloc | apply Kd.R_drewN | apply Kd.R_drew)); exact HO176.out) hb); have n2_ := Aside0.mk (Kd.R_below (by (with_reducible repeat (first | apply Kd.R_alloc | apply Kd.R_drewN | apply Kd.R_drew)); exact HO182.out) hb); have n3_ := Aside0.mk (Kd.R_below (by (with_reducible repeat (first | apply Kd.R_alloc | apply Kd.R_drewN | apply Kd.R_drew)); exact HO185.out) hb); have n4_ := Aside0.mk (blk_below (g := gb169) (o := .cells #[.slice A0_0 l0_0.length c0_0, .slice A0_1 l0_1.length c0_1, .bool a0_2] 25 (0, 0)) (by (with_reducible repeat (first | refine blk_drewN ?_ _ | refine blk_drew ?_ | refine blk_alloc ?_ _)); exact BK169.out) hb); have n5_ := Aside0.mk (blk_below (g := gb179) (o := .cells #[.slice Ao23 t171.length co23, .slice Ao26 t174.length co26, .bool t177] 25 (0, 0)) (by (with_reducible repeat (first | refine blk_drewN ?_ _ | refine blk_drew ?_ | refine blk_alloc ?_ _)); exact BK179.out) hb); have n6_ := Aside0.mk (blk_below (g := gb188) (o := .cells #[.slice Ao29 t180.length co29, .slice Ao33 t183.length co33, .bool t186] 25 (0, 0)) (by (with_reducible repeat (first | refine blk_drewN ?_ _ | refine blk_drew ?_ | refine blk_alloc ?_ _)); exact BK188.out) hb); have n7_ := Aside0.mk (below_step (by repeat (first | (with_reducible first | exact HB.out | apply below_alloc | apply pw_below_drewN | apply below_drew1 | refine below_set ?_ GE169.out | refine below_set ?_ GE179.out | refine below_set ?_ GE188.out) | exact HB.out)) hb); clear HO173; clear HO176; clear HO182; clear HO185; clear BK169; clear BK179; clear BK188; clear HB; have HO173 := n0_; have HO176 := n1_; have HO182 := n2_; have HO185 := n3_; have BK169 := n4_; have BK179 := n5_; have BK188 := n6_; have HB := n7_; clear n0_ n1_ n2_ n3_ n4_ n5_ n6_ n7_; (try clear hb); (try clear hb2); (try clear hk); (try clear hi)))
        (try simp only [Act.put, List.setIfInBounds_toArray, List.set_cons_zero, List.set_cons_succ])
        go_cut [70] (fun v70 wc => ∃ (kq : Nat) (x70_19 : Bool), v70 = .bool x70_19 ∧ Aside0 (copyholdlaw04_DiskReads.j1 kq a1 a2 t170 t190 x70_19 l0_0 l0_1 a0_2 = some r) ∧ Aside0 (kq ≤ kj4) ∧ Aside0 (Kd.R Kd.string 9 wc w.heap.size (fun k_ => some k_ ≠ ((.slice Ao29 t180.length co29) : Value).ownBlock) (.slice Ao23 t171.length co23) t171) ∧ Aside0 (Kd.R k31 31 wc w.heap.size (fun k_ => some k_ ≠ ((.slice Ao33 t183.length co33) : Value).ownBlock) (.slice Ao26 t174.length co26) t174) ∧ Aside0 (Kd.R Kd.string 9 wc w.heap.size (fun k_ => some k_ ≠ ((.slice Ao23 t171.length co23) : Value).ownBlock) (.slice Ao29 t180.length co29) t180) ∧ Aside0 (Kd.R k31 31 wc w.heap.size (fun k_ => some k_ ≠ ((.slice Ao26 t174.length co26) : Value).ownBlock) (.slice Ao33 t183.length co33) t183) ∧ Aside0 (wc.heap[gb169]? = some (.cells #[(.slice A0_0 l0_0.length c0_0), (.slice A0_1 l0_1.length c0_1), .bool a0_2] 25 (0, 0))) ∧ Aside0 (wc.heap[gb179]? = some (.cells #[(.slice Ao23 t171.length co23), (.slice Ao26 t174.length co26), .bool t177] 25 (0, 0))) ∧ Aside0 (wc.heap[gb188]? = some (.cells #[(.slice Ao29 t180.length co29), (.slice Ao33 t183.length co33), .bool t186] 25 (0, 0))) ∧ Aside0 (Below w.heap.size w wc))
        case first =>
          have H := HC20.out
          clear HC20
          by_cases c38 : t189 = true
          · subst c38
            have H1 : (if t178 = t187 then ((disk_Right.f l0_0 l0_1 a0_2).bind fun t191 => (copyholdlaw04_DiskReads.j1 kj4 a1 a2 t170 t190 (t191 != t190) l0_0 l0_1 a0_2)) else (copyholdlaw04_DiskReads.j1 kj4 a1 a2 t170 t190 true l0_0 l0_1 a0_2)) = some r := by rw [if_pos rfl] at H; exact H
            clear H
            have H := H1
            clear H1
            by_cases c39 : t178 = t187
            · rw [if_pos c39] at H
              have c39b0 : (t178 == t187) = true := beq_iff_eq.mpr c39
              have c39b1 : (t178 != t187) = false := bne_eq_false_iff_eq.mpr c39
              clear c39
              (first | rw [c39b0] | (simp only [i64_w, i32_w]; rw [c39b0]) | skip)
              replace H := Option.bind_eq_some_iff.mp H
              obtain ⟨t191, A400, H⟩ := H
              replace H : (copyholdlaw04_DiskReads.j1 kj4 a1 a2 t170 t190 (t191 != t190) l0_0 l0_1 a0_2) = some r := H
              have A40 := Aside0.mk A400
              clear A400
              have H' := Aside0.mk H
              clear H
              have hnb41 := NB169_179.out
              have hnc41 := NB179_169.out
              have hnb42 := NB169_188.out
              have hnc42 := NB188_169.out
              have hcz43_0 : w37.cell? ⟨gb169, 0, none⟩ = some (.slice A0_0 l0_0.length c0_0) := (blk_cell BK169.out 0).trans rfl
              have hcz43_1 : w37.cell? ⟨gb169, 1, none⟩ = some (.slice A0_1 l0_1.length c0_1) := (blk_cell BK169.out 1).trans rfl
              have hcz43_2 : w37.cell? ⟨gb169, 2, none⟩ = some (.bool a0_2) := (blk_cell BK169.out 2).trans rfl
              have hfz43_0 := blk_frozen BK169.out 0
              have hfz43_1 := blk_frozen BK169.out 1
              have hfz43_2 := blk_frozen BK169.out 2
              go_wp2_with (first | (go_at_call 25; (with_reducible refine (disk_Right.calls _ _ l0_0 _ _ l0_1 a0_2 t191 _ ?side1 ?side2 ?side3 ?side4 A40.out).mono ?_); (case side1 => repeat (first | exact (Kd.C_below HR0_0.out HB.out) | (with_reducible refine Kd.C_alloc ?_ _) | (with_reducible refine Kd.C_drewN ?_ _) | (with_reducible refine Kd.C_drew ?_))); (case side2 => exact HC0_0.out); (case side3 => repeat (first | exact (Kd.C_below HR0_1.out HB.out) | (with_reducible refine Kd.C_alloc ?_ _) | (with_reducible refine Kd.C_drewN ?_ _) | (with_reducible refine Kd.C_drew ?_))); (case side4 => exact HC0_1.out); rintro e w44 ⟨rfl, hb⟩; have n0_ := Aside0.mk (Kd.R_below (by (with_reducible repeat (first | apply Kd.R_alloc | apply Kd.R_drewN | apply Kd.R_drew)); exact HO173.out) hb); have n1_ := Aside0.mk (Kd.R_below (by (with_reducible repeat (first | apply Kd.R_alloc | apply Kd.R_drewN | apply Kd.R_drew)); exact HO176.out) hb); have n2_ := Aside0.mk (Kd.R_below (by (with_reducible repeat (first | apply Kd.R_alloc | apply Kd.R_drewN | apply Kd.R_drew)); exact HO182.out) hb); have n3_ := Aside0.mk (Kd.R_below (by (with_reducible repeat (first | apply Kd.R_alloc | apply Kd.R_drewN | apply Kd.R_drew)); exact HO185.out) hb); have n4_ := Aside0.mk (blk_below (g := gb169) (o := .cells #[.slice A0_0 l0_0.length c0_0, .slice A0_1 l0_1.length c0_1, .bool a0_2] 25 (0, 0)) (by (with_reducible repeat (first | refine blk_drewN ?_ _ | refine blk_drew ?_ | refine blk_alloc ?_ _)); exact BK169.out) hb); have n5_ := Aside0.mk (blk_below (g := gb179) (o := .cells #[.slice Ao23 t171.length co23, .slice Ao26 t174.length co26, .bool t177] 25 (0, 0)) (by (with_reducible repeat (first | refine blk_drewN ?_ _ | refine blk_drew ?_ | refine blk_alloc ?_ _)); exact BK179.out) hb); have n6_ := Aside0.mk (blk_below (g := gb188) (o := .cells #[.slice Ao29 t180.length co29, .slice Ao33 t183.length co33, .bool t186] 25 (0, 0)) (by (with_reducible repeat (first | refine blk_drewN ?_ _ | refine blk_drew ?_ | refine blk_alloc ?_ _)); exact BK188.out) hb); have n7_ := Aside0.mk (below_step (by repeat (first | (with_reducible first | exact HB.out | apply below_alloc | apply pw_below_drewN | apply below_drew1 | refine below_set ?_ GE169.out | refine below_set ?_ GE179.out | refine below_set ?_ GE188.out) | exact HB.out)) hb); clear HO173; clear HO176; clear HO182; clear HO185; clear BK169; clear BK179; clear BK188; clear HB; have HO173 := n0_; have HO176 := n1_; have HO182 := n2_; have HO185 := n3_; have BK169 := n4_; have BK179 := n5_; have BK188 := n6_; have HB := n7_; clear n0_ n1_ n2_ n3_ n4_ n5_ n6_ n7_; (try clear hb); (try clear hb2); (try clear hk); (try clear hi)))
              go_meet
              case rel => exact ⟨_, ((t191 != t190)), (by first | rfl | (simp; done) | (simp [*]; done)), H', ⟨by have := HJ4.out; first | omega | exact Nat.le_refl _⟩, ⟨by (with_reducible repeat (first | apply Kd.R_alloc | apply Kd.R_drewN | apply Kd.R_drew)); exact Kd.R_mono HO173.out (fun _ hk => hk.2)⟩, ⟨by (with_reducible repeat (first | apply Kd.R_alloc | apply Kd.R_drewN | apply Kd.R_drew)); exact Kd.R_mono HO176.out (fun _ hk => hk.2)⟩, ⟨by (with_reducible repeat (first | apply Kd.R_alloc | apply Kd.R_drewN | apply Kd.R_drew)); exact Kd.R_mono HO182.out (fun _ hk => hk.2)⟩, ⟨by (with_reducible repeat (first | apply Kd.R_alloc | apply Kd.R_drewN | apply Kd.R_drew)); exact Kd.R_mono HO185.out (fun _ hk => hk.2)⟩, ⟨by (with_reducible repeat (first | refine blk_drewN ?_ _ | refine blk_drew ?_ | refine blk_alloc ?_ _)); exact BK169.out⟩, ⟨by (with_reducible repeat (first | refine blk_drewN ?_ _ | refine blk_drew ?_ | refine blk_alloc ?_ _)); exact BK179.out⟩, ⟨by (with_reducible repeat (first | refine blk_drewN ?_ _ | refine blk_drew ?_ | refine blk_alloc ?_ _)); exact BK188.out⟩, ⟨by repeat (first | (with_reducible first | exact HB.out | apply below_alloc | apply pw_below_drewN | apply below_drew1 | refine below_set ?_ GE169.out | refine below_set ?_ GE179.out | refine below_set ?_ GE188.out) | exact HB.out)⟩⟩
            · rw [if_neg c39] at H
              have c39b0 : (t178 == t187) = false := beq_eq_false_iff_ne.mpr c39
              have c39b1 : (t178 != t187) = true := bne_iff_ne.mpr c39
              (first | rw [c39b0] | (simp only [i64_w, i32_w]; rw [c39b0]) | skip)
              have H' := Aside0.mk H
              clear H
              go_wp2
              go_meet
              case rel => exact ⟨_, (true), (by first | rfl | (simp; done) | (simp [*]; done)), H', ⟨by have := HJ4.out; first | omega | exact Nat.le_refl _⟩, ⟨by (with_reducible repeat (first | apply Kd.R_alloc | apply Kd.R_drewN | apply Kd.R_drew)); exact Kd.R_mono HO173.out (fun _ hk => hk.2)⟩, ⟨by (with_reducible repeat (first | apply Kd.R_alloc | apply Kd.R_drewN | apply Kd.R_drew)); exact Kd.R_mono HO176.out (fun _ hk => hk.2)⟩, ⟨by (with_reducible repeat (first | apply Kd.R_alloc | apply Kd.R_drewN | apply Kd.R_drew)); exact Kd.R_mono HO182.out (fun _ hk => hk.2)⟩, ⟨by (with_reducible repeat (first | apply Kd.R_alloc | apply Kd.R_drewN | apply Kd.R_drew)); exact Kd.R_mono HO185.out (fun _ hk => hk.2)⟩, ⟨by (with_reducible repeat (first | refine blk_drewN ?_ _ | refine blk_drew ?_ | refine blk_alloc ?_ _)); exact BK169.out⟩, ⟨by (with_reducible repeat (first | refine blk_drewN ?_ _ | refine blk_drew ?_ | refine blk_alloc ?_ _)); exact BK179.out⟩, ⟨by (with_reducible repeat (first | refine blk_drewN ?_ _ | refine blk_drew ?_ | refine blk_alloc ?_ _)); exact BK188.out⟩, ⟨by repeat (first | (with_reducible first | exact HB.out | apply below_alloc | apply pw_below_drewN | apply below_drew1 | refine below_set ?_ GE169.out | refine below_set ?_ GE179.out | refine below_set ?_ GE188.out) | exact HB.out)⟩⟩
          · replace c38 := Bool.eq_false_iff.mpr c38
            subst c38
            have H1 : (copyholdlaw04_DiskReads.j1 kj4 a1 a2 t170 t190 true l0_0 l0_1 a0_2) = some r := by rw [if_neg (show ¬ (false = true) by decide)] at H; exact H
            clear H
            have H := H1
            clear H1
            have H' := Aside0.mk H
            clear H
            go_wp2
            go_meet
            case rel => exact ⟨_, (true), (by first | rfl | (simp; done) | (simp [*]; done)), H', ⟨by have := HJ4.out; first | omega | exact Nat.le_refl _⟩, ⟨by (with_reducible repeat (first | apply Kd.R_alloc | apply Kd.R_drewN | apply Kd.R_drew)); exact Kd.R_mono HO173.out (fun _ hk => hk.2)⟩, ⟨by (with_reducible repeat (first | apply Kd.R_alloc | apply Kd.R_drewN | apply Kd.R_drew)); exact Kd.R_mono HO176.out (fun _ hk => hk.2)⟩, ⟨by (with_reducible repeat (first | apply Kd.R_alloc | apply Kd.R_drewN | apply Kd.R_drew)); exact Kd.R_mono HO182.out (fun _ hk => hk.2)⟩, ⟨by (with_reducible repeat (first | apply Kd.R_alloc | apply Kd.R_drewN | apply Kd.R_drew)); exact Kd.R_mono HO185.out (fun _ hk => hk.2)⟩, ⟨by (with_reducible repeat (first | refine blk_drewN ?_ _ | refine blk_drew ?_ | refine blk_alloc ?_ _)); exact BK169.out⟩, ⟨by (with_reducible repeat (first | refine blk_drewN ?_ _ | refine blk_drew ?_ | refine blk_alloc ?_ _)); exact BK179.out⟩, ⟨by (with_reducible repeat (first | refine blk_drewN ?_ _ | refine blk_drew ?_ | refine blk_alloc ?_ _)); exact BK188.out⟩, ⟨by repeat (first | (with_reducible first | exact HB.out | apply below_alloc | apply pw_below_drewN | apply below_drew1 | refine below_set ?_ GE169.out | refine below_set ?_ GE179.out | refine below_set ?_ GE188.out) | exact HB.out)⟩⟩
        case rest =>
          clear HC20
          try clear c1
          try clear c2
          try clear p2
          try clear c3
          try clear c4
          try clear c8
          try clear c8b0
          try clear c8b1
          try clear c9
          try clear c10
          try clear c10b0
          try clear c10b1
          try clear c12
          try clear c12b0
          try clear c15
          try clear c16
          try clear c20
          try clear c23
          try clear c24
          try clear c30
          try clear c31
          try clear c38
          try clear c39
          try clear c39b0
          try clear c39b1
          try clear c41
          try clear c42
          try clear hcz11_0
          try clear hcz11_1
          try clear hcz11_2
          try clear hcz13_0
          try clear hcz13_1
          try clear hcz13_2
          try clear hcz14_0
          try clear hcz14_1
          try clear hcz14_2
          try clear hcz25_0
          try clear hcz25_1
          try clear hcz25_2
          try clear hcz32_0
          try clear hcz32_1
          try clear hcz32_2
          try clear hcz34_0
          try clear hcz34_1
          try clear hcz34_2
          try clear hcz36_0
          try clear hcz36_1
          try clear hcz36_2
          try clear hcz43_0
          try clear hcz43_1
          try clear hcz43_2
          try clear hcz9_0
          try clear hcz9_1
          try clear hcz9_2
          try clear hfz11_0
          try clear hfz11_1
          try clear hfz11_2
          try clear hfz13_0
          try clear hfz13_1
          try clear hfz13_2
          try clear hfz14_0
          try clear hfz14_1
          try clear hfz14_2
          try clear hfz25_0
          try clear hfz25_1
          try clear hfz25_2
          try clear hfz32_0
          try clear hfz32_1
          try clear hfz32_2
          try clear hfz34_0
          try clear hfz34_1
          try clear hfz34_2
          try clear hfz36_0
          try clear hfz36_1
          try clear hfz36_2
          try clear hfz43_0
          try clear hfz43_1
          try clear hfz43_2
          try clear hfz9_0
          try clear hfz9_1
          try clear hfz9_2
          try clear p2
          obtain ⟨kq, x70_19, rfl, HA, HJ19, HO_180000, HO_180001, HO_189000, HO_189001, BK169, BK179, BK188, HB⟩ := hcut
          cases kq with
          | zero => exact absurd HA.out (by simp [copyholdlaw04_DiskReads.j1])
          | succ kj19 =>
            have H := HA.out
            clear HA
            simp only [copyholdlaw04_DiskReads.j1] at H
            by_cases c45 : x70_19 = true
            · subst c45
              have H1 : (some false) = some r := by rw [if_pos rfl] at H; exact H
              clear H
              have H := H1
              clear H1
              obtain rfl := Option.some.inj H
              go_wp2
              go_ret
              exact ⟨by first | rfl | (simp [errW_none, errW_some] <;> rfl) | (simp [*, errW_none, errW_some] <;> rfl), by repeat (first | (with_reducible first | exact HB.out | apply below_alloc | apply pw_below_drewN | apply below_drew1 | refine below_set ?_ GE169.out | refine below_set ?_ GE179.out | refine below_set ?_ GE188.out) | exact HB.out)⟩
            · replace c45 := Bool.eq_false_iff.mpr c45
              subst c45
              have H1 : (if t190 = true then ((disk_Read.f l0_0 l0_1 a0_2 a1).bind fun bt192 => ((copyholdref04_Read.f kj19 l0_0 l0_1 a0_2 a1).bind fun bt194 => ((disk_Stretch.f l0_0 l0_1 a0_2 a1 a2).bind fun bt196 => ((copyholdref04_Stretch.f kj19 l0_0 l0_1 a0_2 a1 a2).bind fun bt198 => ((disk_Image.f l0_0 l0_1 a0_2).bind fun t200 => ((copyholdref04_Image.f kj19 l0_0 l0_1 a0_2).bind fun t203 => ((copyholdref01_Strings.f kj19 t200 t203).bind fun t206 => (if t170 = true then (if bt192.1.toList = bt194.1.toList then (if bt192.2 = bt194.2 then (if bt196.1.toList = bt198.1.toList then (if bt196.2 = bt198.2 then (some t206) else (some false)) else (some false)) else (some false)) else (some false)) else (some false))))))))) else (some t170)) = some r := by rw [if_neg (show ¬ (false = true) by decide)] at H; exact H
              clear H
              have H := H1
              clear H1
              by_cases c46 : t190 = true
              · subst c46
                have H1 : ((disk_Read.f l0_0 l0_1 a0_2 a1).bind fun bt192 => ((copyholdref04_Read.f kj19 l0_0 l0_1 a0_2 a1).bind fun bt194 => ((disk_Stretch.f l0_0 l0_1 a0_2 a1 a2).bind fun bt196 => ((copyholdref04_Stretch.f kj19 l0_0 l0_1 a0_2 a1 a2).bind fun bt198 => ((disk_Image.f l0_0 l0_1 a0_2).bind fun t200 => ((copyholdref04_Image.f kj19 l0_0 l0_1 a0_2).bind fun t203 => ((copyholdref01_Strings.f kj19 t200 t203).bind fun t206 => (if t170 = true then (if bt192.1.toList = bt194.1.toList then (if bt192.2 = bt194.2 then (if bt196.1.toList = bt198.1.toList then (if bt196.2 = bt198.2 then (some t206) else (some false)) else (some false)) else (some false)) else (some false)) else (some false))))))))) = some r := by rw [if_pos rfl] at H; exact H
                clear H
                have H := H1
                clear H1
                replace H := Option.bind_eq_some_iff.mp H
                obtain ⟨⟨t192, t193⟩, A470, H⟩ := H
                replace H : ((copyholdref04_Read.f kj19 l0_0 l0_1 a0_2 a1).bind fun bt194 => ((disk_Stretch.f l0_0 l0_1 a0_2 a1 a2).bind fun bt196 => ((copyholdref04_Stretch.f kj19 l0_0 l0_1 a0_2 a1 a2).bind fun bt198 => ((disk_Image.f l0_0 l0_1 a0_2).bind fun t200 => ((copyholdref04_Image.f kj19 l0_0 l0_1 a0_2).bind fun t203 => ((copyholdref01_Strings.f kj19 t200 t203).bind fun t206 => (if t170 = true then (if t192.toList = bt194.1.toList then (if t193 = bt194.2 then (if bt196.1.toList = bt198.1.toList then (if bt196.2 = bt198.2 then (some t206) else (some false)) else (some false)) else (some false)) else (some false)) else (some false)))))))) = some r := H
                have A47 := Aside0.mk A470
                clear A470
                replace H := Option.bind_eq_some_iff.mp H
                obtain ⟨⟨t194, t195⟩, A480, H⟩ := H
                replace H : ((disk_Stretch.f l0_0 l0_1 a0_2 a1 a2).bind fun bt196 => ((copyholdref04_Stretch.f kj19 l0_0 l0_1 a0_2 a1 a2).bind fun bt198 => ((disk_Image.f l0_0 l0_1 a0_2).bind fun t200 => ((copyholdref04_Image.f kj19 l0_0 l0_1 a0_2).bind fun t203 => ((copyholdref01_Strings.f kj19 t200 t203).bind fun t206 => (if t170 = true then (if t192.toList = t194.toList then (if t193 = t195 then (if bt196.1.toList = bt198.1.toList then (if bt196.2 = bt198.2 then (some t206) else (some false)) else (some false)) else (some false)) else (some false)) else (some false))))))) = some r := H
                have A48 := Aside0.mk A480
                clear A480
                replace H := Option.bind_eq_some_iff.mp H
                obtain ⟨⟨t196, t197⟩, A490, H⟩ := H
                replace H : ((copyholdref04_Stretch.f kj19 l0_0 l0_1 a0_2 a1 a2).bind fun bt198 => ((disk_Image.f l0_0 l0_1 a0_2).bind fun t200 => ((copyholdref04_Image.f kj19 l0_0 l0_1 a0_2).bind fun t203 => ((copyholdref01_Strings.f kj19 t200 t203).bind fun t206 => (if t170 = true then (if t192.toList = t194.toList then (if t193 = t195 then (if t196.toList = bt198.1.toList then (if t197 = bt198.2 then (some t206) else (some false)) else (some false)) else (some false)) else (some false)) else (some false)))))) = some r := H
                have A49 := Aside0.mk A490
                clear A490
                replace H := Option.bind_eq_some_iff.mp H
                obtain ⟨⟨t198, t199⟩, A500, H⟩ := H
                replace H : ((disk_Image.f l0_0 l0_1 a0_2).bind fun t200 => ((copyholdref04_Image.f kj19 l0_0 l0_1 a0_2).bind fun t203 => ((copyholdref01_Strings.f kj19 t200 t203).bind fun t206 => (if t170 = true then (if t192.toList = t194.toList then (if t193 = t195 then (if t196.toList = t198.toList then (if t197 = t199 then (some t206) else (some false)) else (some false)) else (some false)) else (some false)) else (some false))))) = some r := H
                have A50 := Aside0.mk A500
                clear A500
                replace H := Option.bind_eq_some_iff.mp H
                obtain ⟨t200, A510, H⟩ := H
                replace H : ((copyholdref04_Image.f kj19 l0_0 l0_1 a0_2).bind fun t203 => ((copyholdref01_Strings.f kj19 t200 t203).bind fun t206 => (if t170 = true then (if t192.toList = t194.toList then (if t193 = t195 then (if t196.toList = t198.toList then (if t197 = t199 then (some t206) else (some false)) else (some false)) else (some false)) else (some false)) else (some false)))) = some r := H
                have A51 := Aside0.mk A510
                clear A510
                replace H := Option.bind_eq_some_iff.mp H
                obtain ⟨t203, A520, H⟩ := H
                replace H : ((copyholdref01_Strings.f kj19 t200 t203).bind fun t206 => (if t170 = true then (if t192.toList = t194.toList then (if t193 = t195 then (if t196.toList = t198.toList then (if t197 = t199 then (some t206) else (some false)) else (some false)) else (some false)) else (some false)) else (some false))) = some r := H
                have A52 := Aside0.mk A520
                clear A520
                replace H := Option.bind_eq_some_iff.mp H
                obtain ⟨t206, A530, H⟩ := H
                replace H : (if t170 = true then (if t192.toList = t194.toList then (if t193 = t195 then (if t196.toList = t198.toList then (if t197 = t199 then (some t206) else (some false)) else (some false)) else (some false)) else (some false)) else (some false)) = some r := H
                have A53 := Aside0.mk A530
                clear A530
                by_cases c54 : t170 = true
                · subst c54
                  have H1 : (if t192.toList = t194.toList then (if t193 = t195 then (if t196.toList = t198.toList then (if t197 = t199 then (some t206) else (some false)) else (some false)) else (some false)) else (some false)) = some r := by rw [if_pos rfl] at H; exact H
                  clear H
                  have H := H1
                  clear H1
                  by_cases c55 : t192.toList = t194.toList
                  · rw [if_pos c55] at H
                    have c55b0 : (t192.toList == t194.toList) = true := beq_iff_eq.mpr c55
                    have c55b1 : (t192.toList != t194.toList) = false := bne_eq_false_iff_eq.mpr c55
                    clear c55
                    by_cases c56 : t193 = t195
                    · rw [if_pos c56] at H
                      have c56b0 : (t193 == t195) = true := beq_iff_eq.mpr c56
                      have c56b1 : (t193 != t195) = false := bne_eq_false_iff_eq.mpr c56
                      clear c56
                      by_cases c57 : t196.toList = t198.toList
                      · rw [if_pos c57] at H
                        have c57b0 : (t196.toList == t198.toList) = true := beq_iff_eq.mpr c57
                        have c57b1 : (t196.toList != t198.toList) = false := bne_eq_false_iff_eq.mpr c57
                        clear c57
                        by_cases c58 : t197 = t199
                        · rw [if_pos c58] at H
                          have c58b0 : (t197 == t199) = true := beq_iff_eq.mpr c58
                          have c58b1 : (t197 != t199) = false := bne_eq_false_iff_eq.mpr c58
                          clear c58
                          obtain rfl := Option.some.inj H
                          have hnb59 := NB169_179.out
                          have hnc59 := NB179_169.out
                          have hnb60 := NB169_188.out
                          have hnc60 := NB188_169.out
                          have hcz61_0 : wc.cell? ⟨gb169, 0, none⟩ = some (.slice A0_0 l0_0.length c0_0) := (blk_cell BK169.out 0).trans rfl
                          have hcz61_1 : wc.cell? ⟨gb169, 1, none⟩ = some (.slice A0_1 l0_1.length c0_1) := (blk_cell BK169.out 1).trans rfl
                          have hcz61_2 : wc.cell? ⟨gb169, 2, none⟩ = some (.bool a0_2) := (blk_cell BK169.out 2).trans rfl
                          have hfz61_0 := blk_frozen BK169.out 0
                          have hfz61_1 := blk_frozen BK169.out 1
                          have hfz61_2 := blk_frozen BK169.out 2
                          try go_wp2_with (first | ((with_reducible refine gate_callee (f := 21) rfl ?_); refine goesL_ (some 77) rfl rfl Try.func21 (by kernel_rfl) rfl #[.agg #[.slice A0_0 l0_0.length c0_0, .slice A0_1 l0_1.length c0_1, .bool a0_2], .int .i64 a1] rfl (by (try simp only [List.map_toArray, List.map_cons, List.map_nil]); first | done | rfl | (simp only [List.length_drop, List.length_take]; rfl)) ?_; (with_reducible refine (disk_Read.calls _ _ l0_0 _ _ l0_1 a0_2 a1 t192 t193 _ ?side1 ?side2 ?side3 ?side4 A47.out).mono ?_); (case side1 => repeat (first | exact (Kd.C_below HR0_0.out HB.out) | (with_reducible refine Kd.C_alloc ?_ _) | (with_reducible refine Kd.C_drewN ?_ _) | (with_reducible refine Kd.C_drew ?_))); (case side2 => exact HC0_0.out); (case side3 => repeat (first | exact (Kd.C_below HR0_1.out HB.out) | (with_reducible refine Kd.C_alloc ?_ _) | (with_reducible refine Kd.C_drewN ?_ _) | (with_reducible refine Kd.C_drew ?_))); (case side4 => exact HC0_1.out); rintro e w62 ⟨rfl, hb⟩; refine ⟨_, rfl, ?_⟩; have n0_ := Aside0.mk (Kd.R_below (by (with_reducible repeat (first | apply Kd.R_alloc | apply Kd.R_drewN | apply Kd.R_drew)); exact HO_180000.out) hb); have n1_ := Aside0.mk (Kd.R_below (by (with_reducible repeat (first | apply Kd.R_alloc | apply Kd.R_drewN | apply Kd.R_drew)); exact HO_180001.out) hb); have n2_ := Aside0.mk (Kd.R_below (by (with_reducible repeat (first | apply Kd.R_alloc | apply Kd.R_drewN | apply Kd.R_drew)); exact HO_189000.out) hb); have n3_ := Aside0.mk (Kd.R_below (by (with_reducible repeat (first | apply Kd.R_alloc | apply Kd.R_drewN | apply Kd.R_drew)); exact HO_189001.out) hb); have n4_ := Aside0.mk (blk_below (g := gb169) (o := .cells #[.slice A0_0 l0_0.length c0_0, .slice A0_1 l0_1.length c0_1, .bool a0_2] 25 (0, 0)) (by (with_reducible repeat (first | refine blk_drewN ?_ _ | refine blk_drew ?_ | refine blk_alloc ?_ _)); exact BK169.out) hb); have n5_ := Aside0.mk (blk_below (g := gb179) (o := .cells #[.slice Ao23 t171.length co23, .slice Ao26 t174.length co26, .bool t177] 25 (0, 0)) (by (with_reducible repeat (first | refine blk_drewN ?_ _ | refine blk_drew ?_ | refine blk_alloc ?_ _)); exact BK179.out) hb); have n6_ := Aside0.mk (blk_below (g := gb188) (o := .cells #[.slice Ao29 t180.length co29, .slice Ao33 t183.length co33, .bool t186] 25 (0, 0)) (by (with_reducible repeat (first | refine blk_drewN ?_ _ | refine blk_drew ?_ | refine blk_alloc ?_ _)); exact BK188.out) hb); have n7_ := Aside0.mk (below_step (by repeat (first | (with_reducible first | exact HB.out | apply below_alloc | apply pw_below_drewN | apply below_drew1 | refine below_set ?_ GE169.out | refine below_set ?_ GE179.out | refine below_set ?_ GE188.out) | exact HB.out)) hb); clear HO_180000; clear HO_180001; clear HO_189000; clear HO_189001; clear BK169; clear BK179; clear BK188; clear HB; have HO_180000 := n0_; have HO_180001 := n1_; have HO_189000 := n2_; have HO_189001 := n3_; have BK169 := n4_; have BK179 := n5_; have BK188 := n6_; have HB := n7_; clear n0_ n1_ n2_ n3_ n4_ n5_ n6_ n7_; (try clear hb); (try clear hb2); (try clear hk); (try clear hi); have hcz63_0 : w62.cell? ⟨gb169, 0, none⟩ = some (.slice A0_0 l0_0.length c0_0) := (blk_cell BK169.out 0).trans rfl; have hcz63_1 : w62.cell? ⟨gb169, 1, none⟩ = some (.slice A0_1 l0_1.length c0_1) := (blk_cell BK169.out 1).trans rfl; have hcz63_2 : w62.cell? ⟨gb169, 2, none⟩ = some (.bool a0_2) := (blk_cell BK169.out 2).trans rfl; have hfz63_0 := blk_frozen BK169.out 0; have hfz63_1 := blk_frozen BK169.out 1; have hfz63_2 := blk_frozen BK169.out 2) | ((with_reducible refine gate_callee (f := 26) rfl ?_); refine goesL_ (some 83) rfl rfl Try.func26 (by kernel_rfl) rfl #[.agg #[.slice A0_0 l0_0.length c0_0, .slice A0_1 l0_1.length c0_1, .bool a0_2], .int .i64 a1] rfl (by (try simp only [List.map_toArray, List.map_cons, List.map_nil]); first | done | rfl | (simp only [List.length_drop, List.length_take]; rfl)) ?_; (with_reducible refine (copyholdref04_Read.calls kj19 _ _ l0_0 _ _ l0_1 a0_2 a1 t194 t195 _ ?side1 ?side2 ?side3 ?side4 A48.out).mono ?_); (case side1 => repeat (first | exact (Kd.C_below HR0_0.out HB.out) | (with_reducible refine Kd.C_alloc ?_ _) | (with_reducible refine Kd.C_drewN ?_ _) | (with_reducible refine Kd.C_drew ?_))); (case side2 => exact HC0_0.out); (case side3 => repeat (first | exact (Kd.C_below HR0_1.out HB.out) | (with_reducible refine Kd.C_alloc ?_ _) | (with_reducible refine Kd.C_drewN ?_ _) | (with_reducible refine Kd.C_drew ?_))); (case side4 => exact HC0_1.out); rintro e w64 ⟨rfl, hb⟩; refine ⟨_, rfl, ?_⟩; have n0_ := Aside0.mk (Kd.R_below (by (with_reducible repeat (first | apply Kd.R_alloc | apply Kd.R_drewN | apply Kd.R_drew)); exact HO_180000.out) hb); have n1_ := Aside0.mk (Kd.R_below (by (with_reducible repeat (first | apply Kd.R_alloc | apply Kd.R_drewN | apply Kd.R_drew)); exact HO_180001.out) hb); have n2_ := Aside0.mk (Kd.R_below (by (with_reducible repeat (first | apply Kd.R_alloc | apply Kd.R_drewN | apply Kd.R_drew)); exact HO_189000.out) hb); have n3_ := Aside0.mk (Kd.R_below (by (with_reducible repeat (first | apply Kd.R_alloc | apply Kd.R_drewN | apply Kd.R_drew)); exact HO_189001.out) hb); have n4_ := Aside0.mk (blk_below (g := gb169) (o := .cells #[.slice A0_0 l0_0.length c0_0, .slice A0_1 l0_1.length c0_1, .bool a0_2] 25 (0, 0)) (by (with_reducible repeat (first | refine blk_drewN ?_ _ | refine blk_drew ?_ | refine blk_alloc ?_ _)); exact BK169.out) hb); have n5_ := Aside0.mk (blk_below (g := gb179) (o := .cells #[.slice Ao23 t171.length co23, .slice Ao26 t174.length co26, .bool t177] 25 (0, 0)) (by (with_reducible repeat (first | refine blk_drewN ?_ _ | refine blk_drew ?_ | refine blk_alloc ?_ _)); exact BK179.out) hb); have n6_ := Aside0.mk (blk_below (g := gb188) (o := .cells #[.slice Ao29 t180.length co29, .slice Ao33 t183.length co33, .bool t186] 25 (0, 0)) (by (with_reducible repeat (first | refine blk_drewN ?_ _ | refine blk_drew ?_ | refine blk_alloc ?_ _)); exact BK188.out) hb); have n7_ := Aside0.mk (below_step (by repeat (first | (with_reducible first | exact HB.out | apply below_alloc | apply pw_below_drewN | apply below_drew1 | refine below_set ?_ GE169.out | refine below_set ?_ GE179.out | refine below_set ?_ GE188.out) | exact HB.out)) hb); clear HO_180000; clear HO_180001; clear HO_189000; clear HO_189001; clear BK169; clear BK179; clear BK188; clear HB; have HO_180000 := n0_; have HO_180001 := n1_; have HO_189000 := n2_; have HO_189001 := n3_; have BK169 := n4_; have BK179 := n5_; have BK188 := n6_; have HB := n7_; clear n0_ n1_ n2_ n3_ n4_ n5_ n6_ n7_; (try clear hb); (try clear hb2); (try clear hk); (try clear hi); have hcz65_0 : w64.cell? ⟨gb169, 0, none⟩ = some (.slice A0_0 l0_0.length c0_0) := (blk_cell BK169.out 0).trans rfl; have hcz65_1 : w64.cell? ⟨gb169, 1, none⟩ = some (.slice A0_1 l0_1.length c0_1) := (blk_cell BK169.out 1).trans rfl; have hcz65_2 : w64.cell? ⟨gb169, 2, none⟩ = some (.bool a0_2) := (blk_cell BK169.out 2).trans rfl; have hfz65_0 := blk_frozen BK169.out 0; have hfz65_1 := blk_frozen BK169.out 1; have hfz65_2 := blk_frozen BK169.out 2) | ((with_reducible refine gate_callee (f := 22) rfl ?_); refine goesL_ (some 90) rfl rfl Try.func22 (by kernel_rfl) rfl #[.agg #[.slice A0_0 l0_0.length c0_0, .slice A0_1 l0_1.length c0_1, .bool a0_2], .int .i64 a1, .int .i64 a2] rfl (by (try simp only [List.map_toArray, List.map_cons, List.map_nil]); first | done | rfl | (simp only [List.length_drop, List.length_take]; rfl)) ?_; (with_reducible refine (disk_Stretch.calls _ _ l0_0 _ _ l0_1 a0_2 a1 a2 t196 t197 _ ?side1 ?side2 ?side3 ?side4 A49.out).mono ?_); (case side1 => repeat (first | exact (Kd.C_below HR0_0.out HB.out) | (with_reducible refine Kd.C_alloc ?_ _) | (with_reducible refine Kd.C_drewN ?_ _) | (with_reducible refine Kd.C_drew ?_))); (case side2 => exact HC0_0.out); (case side3 => repeat (first | exact (Kd.C_below HR0_1.out HB.out) | (with_reducible refine Kd.C_alloc ?_ _) | (with_reducible refine Kd.C_drewN ?_ _) | (with_reducible refine Kd.C_drew ?_))); (case side4 => exact HC0_1.out); rintro e w66 ⟨rfl, hb⟩; refine ⟨_, rfl, ?_⟩; have n0_ := Aside0.mk (Kd.R_below (by (with_reducible repeat (first | apply Kd.R_alloc | apply Kd.R_drewN | apply Kd.R_drew)); exact HO_180000.out) hb); have n1_ := Aside0.mk (Kd.R_below (by (with_reducible repeat (first | apply Kd.R_alloc | apply Kd.R_drewN | apply Kd.R_drew)); exact HO_180001.out) hb); have n2_ := Aside0.mk (Kd.R_below (by (with_reducible repeat (first | apply Kd.R_alloc | apply Kd.R_drewN | apply Kd.R_drew)); exact HO_189000.out) hb); have n3_ := Aside0.mk (Kd.R_below (by (with_reducible repeat (first | apply Kd.R_alloc | apply Kd.R_drewN | apply Kd.R_drew)); exact HO_189001.out) hb); have n4_ := Aside0.mk (blk_below (g := gb169) (o := .cells #[.slice A0_0 l0_0.length c0_0, .slice A0_1 l0_1.length c0_1, .bool a0_2] 25 (0, 0)) (by (with_reducible repeat (first | refine blk_drewN ?_ _ | refine blk_drew ?_ | refine blk_alloc ?_ _)); exact BK169.out) hb); have n5_ := Aside0.mk (blk_below (g := gb179) (o := .cells #[.slice Ao23 t171.length co23, .slice Ao26 t174.length co26, .bool t177] 25 (0, 0)) (by (with_reducible repeat (first | refine blk_drewN ?_ _ | refine blk_drew ?_ | refine blk_alloc ?_ _)); exact BK179.out) hb); have n6_ := Aside0.mk (blk_below (g := gb188) (o := .cells #[.slice Ao29 t180.length co29, .slice Ao33 t183.length co33, .bool t186] 25 (0, 0)) (by (with_reducible repeat (first | refine blk_drewN ?_ _ | refine blk_drew ?_ | refine blk_alloc ?_ _)); exact BK188.out) hb); have n7_ := Aside0.mk (below_step (by repeat (first | (with_reducible first | exact HB.out | apply below_alloc | apply pw_below_drewN | apply below_drew1 | refine below_set ?_ GE169.out | refine below_set ?_ GE179.out | refine below_set ?_ GE188.out) | exact HB.out)) hb); clear HO_180000; clear HO_180001; clear HO_189000; clear HO_189001; clear BK169; clear BK179; clear BK188; clear HB; have HO_180000 := n0_; have HO_180001 := n1_; have HO_189000 := n2_; have HO_189001 := n3_; have BK169 := n4_; have BK179 := n5_; have BK188 := n6_; have HB := n7_; clear n0_ n1_ n2_ n3_ n4_ n5_ n6_ n7_; (try clear hb); (try clear hb2); (try clear hk); (try clear hi); have hcz67_0 : w66.cell? ⟨gb169, 0, none⟩ = some (.slice A0_0 l0_0.length c0_0) := (blk_cell BK169.out 0).trans rfl; have hcz67_1 : w66.cell? ⟨gb169, 1, none⟩ = some (.slice A0_1 l0_1.length c0_1) := (blk_cell BK169.out 1).trans rfl; have hcz67_2 : w66.cell? ⟨gb169, 2, none⟩ = some (.bool a0_2) := (blk_cell BK169.out 2).trans rfl; have hfz67_0 := blk_frozen BK169.out 0; have hfz67_1 := blk_frozen BK169.out 1; have hfz67_2 := blk_frozen BK169.out 2) | ((with_reducible refine gate_callee (f := 27) rfl ?_); refine goesL_ (some 97) rfl rfl Try.func27 (by kernel_rfl) rfl #[.agg #[.slice A0_0 l0_0.length c0_0, .slice A0_1 l0_1.length c0_1, .bool a0_2], .int .i64 a1, .int .i64 a2] rfl (by (try simp only [List.map_toArray, List.map_cons, List.map_nil]); first | done | rfl | (simp only [List.length_drop, List.length_take]; rfl)) ?_; (with_reducible refine (copyholdref04_Stretch.calls kj19 _ _ l0_0 _ _ l0_1 a0_2 a1 a2 t198 t199 _ ?side1 ?side2 ?side3 ?side4 A50.out).mono ?_); (case side1 => repeat (first | exact (Kd.C_below HR0_0.out HB.out) | (with_reducible refine Kd.C_alloc ?_ _) | (with_reducible refine Kd.C_drewN ?_ _) | (with_reducible refine Kd.C_drew ?_))); (case side2 => exact HC0_0.out); (case side3 => repeat (first | exact (Kd.C_below HR0_1.out HB.out) | (with_reducible refine Kd.C_alloc ?_ _) | (with_reducible refine Kd.C_drewN ?_ _) | (with_reducible refine Kd.C_drew ?_))); (case side4 => exact HC0_1.out); rintro e w68 ⟨rfl, hb⟩; refine ⟨_, rfl, ?_⟩; have n0_ := Aside0.mk (Kd.R_below (by (with_reducible repeat (first | apply Kd.R_alloc | apply Kd.R_drewN | apply Kd.R_drew)); exact HO_180000.out) hb); have n1_ := Aside0.mk (Kd.R_below (by (with_reducible repeat (first | apply Kd.R_alloc | apply Kd.R_drewN | apply Kd.R_drew)); exact HO_180001.out) hb); have n2_ := Aside0.mk (Kd.R_below (by (with_reducible repeat (first | apply Kd.R_alloc | apply Kd.R_drewN | apply Kd.R_drew)); exact HO_189000.out) hb); have n3_ := Aside0.mk (Kd.R_below (by (with_reducible repeat (first | apply Kd.R_alloc | apply Kd.R_drewN | apply Kd.R_drew)); exact HO_189001.out) hb); have n4_ := Aside0.mk (blk_below (g := gb169) (o := .cells #[.slice A0_0 l0_0.length c0_0, .slice A0_1 l0_1.length c0_1, .bool a0_2] 25 (0, 0)) (by (with_reducible repeat (first | refine blk_drewN ?_ _ | refine blk_drew ?_ | refine blk_alloc ?_ _)); exact BK169.out) hb); have n5_ := Aside0.mk (blk_below (g := gb179) (o := .cells #[.slice Ao23 t171.length co23, .slice Ao26 t174.length co26, .bool t177] 25 (0, 0)) (by (with_reducible repeat (first | refine blk_drewN ?_ _ | refine blk_drew ?_ | refine blk_alloc ?_ _)); exact BK179.out) hb); have n6_ := Aside0.mk (blk_below (g := gb188) (o := .cells #[.slice Ao29 t180.length co29, .slice Ao33 t183.length co33, .bool t186] 25 (0, 0)) (by (with_reducible repeat (first | refine blk_drewN ?_ _ | refine blk_drew ?_ | refine blk_alloc ?_ _)); exact BK188.out) hb); have n7_ := Aside0.mk (below_step (by repeat (first | (with_reducible first | exact HB.out | apply below_alloc | apply pw_below_drewN | apply below_drew1 | refine below_set ?_ GE169.out | refine below_set ?_ GE179.out | refine below_set ?_ GE188.out) | exact HB.out)) hb); clear HO_180000; clear HO_180001; clear HO_189000; clear HO_189001; clear BK169; clear BK179; clear BK188; clear HB; have HO_180000 := n0_; have HO_180001 := n1_; have HO_189000 := n2_; have HO_189001 := n3_; have BK169 := n4_; have BK179 := n5_; have BK188 := n6_; have HB := n7_; clear n0_ n1_ n2_ n3_ n4_ n5_ n6_ n7_; (try clear hb); (try clear hb2); (try clear hk); (try clear hi)))
                          have n0_ := Aside0.mk (Kd.R_drew HO_180000.out)
                          have n1_ := Aside0.mk (Kd.R_drew HO_180001.out)
                          have n2_ := Aside0.mk (Kd.R_drew HO_189000.out)
                          have n3_ := Aside0.mk (Kd.R_drew HO_189001.out)
                          have n4_ := Aside0.mk (blk_drew BK169.out)
                          have n5_ := Aside0.mk (blk_drew BK179.out)
                          have n6_ := Aside0.mk (blk_drew BK188.out)
                          have n7_ := Aside0.mk (below_drew1 HB.out)
                          clear HO_180000
                          clear HO_180001
                          clear HO_189000
                          clear HO_189001
                          clear BK169
                          clear BK179
                          clear BK188
                          clear HB
                          have HO_180000 := n0_
                          have HO_180001 := n1_
                          have HO_189000 := n2_
                          have HO_189001 := n3_
                          have BK169 := n4_
                          have BK179 := n5_
                          have BK188 := n6_
                          have HB := n7_
                          clear n0_ n1_ n2_ n3_ n4_ n5_ n6_ n7_
                          refine start_ (n := 6) (S := fun w' => w'.cell? ⟨gb169, 0, none⟩ = some (.slice A0_0 l0_0.length c0_0) ∧ w'.cell? ⟨gb169, 1, none⟩ = some (.slice A0_1 l0_1.length c0_1) ∧ w'.cell? ⟨gb169, 2, none⟩ = some (.bool a0_2)) (ds := []) #[false, false, false, false, false, false] (by kernel_rfl) rfl rfl ⟨(blk_cell BK169.out 0).trans rfl, (blk_cell BK169.out 1).trans rfl, (blk_cell BK169.out 2).trans rfl⟩ (fun hHeld => ?_)
                          generalize w68.drew = w69 at HO_180000 HO_180001 HO_189000 HO_189001 BK169 BK179 BK188 HB hHeld ⊢
                          refine take_ (i := 0) (N := some 100) (v := ?_) (a' := ?_) #[true, false, false, false, false, false] rfl rfl (by kernel_rfl) (fun _ _ _ h => h) (Or.inl ⟨by rfl, ?_⟩) hHeld ?_ ?_
                          rotate_left
                          · rintro w' ⟨s0, s1, s2⟩
                            go_simp
                            with_reducible rfl
                          rotate_left
                          · simp only [Act.put, List.setIfInBounds_toArray, List.set_cons_zero, List.set_cons_succ, i64_w, i32_w]
                            rfl
                          refine take_ (i := 2) (N := some 102) (v := ?_) (a' := ?_) #[true, false, true, false, false, false] rfl rfl (by kernel_rfl) (fun _ _ _ h => h) (Or.inl ⟨by rfl, ?_⟩) hHeld ?_ ?_
                          rotate_left
                          · rintro w' ⟨s0, s1, s2⟩
                            go_simp
                            with_reducible rfl
                          rotate_left
                          · simp only [Act.put, List.setIfInBounds_toArray, List.set_cons_zero, List.set_cons_succ, i64_w, i32_w]
                            rfl
                          refine one_ (i := 1) (N := some 101) #[true, true, true, false, false, false] rfl rfl (by kernel_rfl) (by decide) (fun K hK => ?_)
                          refine goes_ Try.func19 (by kernel_rfl) rfl #[.agg #[.slice A0_0 l0_0.length c0_0, .slice A0_1 l0_1.length c0_1, .bool a0_2]] (by rfl) rfl rfl (by (try simp only [List.map_toArray, List.map_cons, List.map_nil]); first | done | rfl | (simp only [List.length_drop, List.length_take]; rfl)) ?_
                          with_reducible refine (disk_Image.calls _ _ l0_0 _ _ l0_1 a0_2 t200 _ ?side1 ?side2 ?side3 ?side4 A51.out).mono ?_
                          (case side1 => repeat (first | exact (Kd.C_below HR0_0.out HB.out) | (with_reducible refine Kd.C_alloc ?_ _) | (with_reducible refine Kd.C_drewN ?_ _) | (with_reducible refine Kd.C_drew ?_)))
                          (case side2 => exact HC0_0.out)
                          (case side3 => repeat (first | exact (Kd.C_below HR0_1.out HB.out) | (with_reducible refine Kd.C_alloc ?_ _) | (with_reducible refine Kd.C_drewN ?_ _) | (with_reducible refine Kd.C_drew ?_)))
                          (case side4 => exact HC0_1.out)
                          rintro e w70 ⟨v201, rfl, ho0, hb⟩
                          refine ⟨_, rfl, ?_⟩
                          have n0_ := Aside0.mk (Kd.R_elder' (by (with_reducible repeat (first | apply Kd.R_alloc | apply Kd.R_drewN | apply Kd.R_drew)); exact HO_180000.out) (Kd.R_base ho0) hb)
                          have n1_ := Aside0.mk (Kd.R_below (by (with_reducible repeat (first | apply Kd.R_alloc | apply Kd.R_drewN | apply Kd.R_drew)); exact HO_180001.out) hb)
                          have n2_ := Aside0.mk (Kd.R_elder' (by (with_reducible repeat (first | apply Kd.R_alloc | apply Kd.R_drewN | apply Kd.R_drew)); exact HO_189000.out) (Kd.R_base ho0) hb)
                          have n3_ := Aside0.mk (Kd.R_below (by (with_reducible repeat (first | apply Kd.R_alloc | apply Kd.R_drewN | apply Kd.R_drew)); exact HO_189001.out) hb)
                          have n4_ := Aside0.mk (Kd.R_lower (Kd.R_new' (Kd.R_new' ho0 (Kd.R_lt (by (with_reducible repeat (first | apply Kd.R_alloc | apply Kd.R_drewN | apply Kd.R_drew)); exact HO_180000.out))) (Kd.R_lt (by (with_reducible repeat (first | apply Kd.R_alloc | apply Kd.R_drewN | apply Kd.R_drew)); exact HO_189000.out))) (below_size (by repeat (first | (with_reducible first | exact HB.out | apply below_alloc | apply pw_below_drewN | apply below_drew1 | refine below_set ?_ GE169.out | refine below_set ?_ GE179.out | refine below_set ?_ GE188.out) | exact HB.out))))
                          have n5_ := Aside0.mk (blk_below (g := gb169) (o := .cells #[.slice A0_0 l0_0.length c0_0, .slice A0_1 l0_1.length c0_1, .bool a0_2] 25 (0, 0)) (by (with_reducible repeat (first | refine blk_drewN ?_ _ | refine blk_drew ?_ | refine blk_alloc ?_ _)); exact BK169.out) hb)
                          have n6_ := Aside0.mk (blk_below (g := gb179) (o := .cells #[.slice Ao23 t171.length co23, .slice Ao26 t174.length co26, .bool t177] 25 (0, 0)) (by (with_reducible repeat (first | refine blk_drewN ?_ _ | refine blk_drew ?_ | refine blk_alloc ?_ _)); exact BK179.out) hb)
                          have n7_ := Aside0.mk (blk_below (g := gb188) (o := .cells #[.slice Ao29 t180.length co29, .slice Ao33 t183.length co33, .bool t186] 25 (0, 0)) (by (with_reducible repeat (first | refine blk_drewN ?_ _ | refine blk_drew ?_ | refine blk_alloc ?_ _)); exact BK188.out) hb)
                          have n8_ := Aside0.mk (below_step (by repeat (first | (with_reducible first | exact HB.out | apply below_alloc | apply pw_below_drewN | apply below_drew1 | refine below_set ?_ GE169.out | refine below_set ?_ GE179.out | refine below_set ?_ GE188.out) | exact HB.out)) hb)
                          clear HO_180000
                          clear HO_180001
                          clear HO_189000
                          clear HO_189001
                          clear BK169
                          clear BK179
                          clear BK188
                          clear HB
                          have HO_180000 := n0_
                          have HO_180001 := n1_
                          have HO_189000 := n2_
                          have HO_189001 := n3_
                          have HO202 := n4_
                          have BK169 := n5_
                          have BK179 := n6_
                          have BK188 := n7_
                          have HB := n8_
                          clear n0_ n1_ n2_ n3_ n4_ n5_ n6_ n7_ n8_
                          (try clear hb)
                          (try clear hb2)
                          (try clear hk)
                          (try clear hi)
                          (try clear ho0)
                          refine hK.out _ _ ⟨(blk_cell BK169.out 0).trans rfl, (blk_cell BK169.out 1).trans rfl, (blk_cell BK169.out 2).trans rfl⟩ (fun hHeld => ?_)
                          clear hK K
                          refine norm_ (a' := ?_) ?_ ?_
                          rotate_left
                          · show Act.put _ (some 101) _ = _
                            simp only [Act.put, List.setIfInBounds_toArray, List.set_cons_zero, List.set_cons_succ, i64_w, i32_w]
                            rfl
                          refine one_ (i := 3) (N := some 103) #[true, true, true, true, false, false] rfl rfl (by kernel_rfl) (by decide) (fun K hK => ?_)
                          refine goes_ Try.func28 (by kernel_rfl) rfl #[.agg #[.slice A0_0 l0_0.length c0_0, .slice A0_1 l0_1.length c0_1, .bool a0_2]] (by rfl) rfl rfl (by (try simp only [List.map_toArray, List.map_cons, List.map_nil]); first | done | rfl | (simp only [List.length_drop, List.length_take]; rfl)) ?_
                          with_reducible refine (copyholdref04_Image.calls kj19 _ _ l0_0 _ _ l0_1 a0_2 t203 _ ?side1 ?side2 ?side3 ?side4 A52.out).mono ?_
                          (case side1 => repeat (first | exact (Kd.C_below HR0_0.out HB.out) | (with_reducible refine Kd.C_alloc ?_ _) | (with_reducible refine Kd.C_drewN ?_ _) | (with_reducible refine Kd.C_drew ?_)))
                          (case side2 => exact HC0_0.out)
                          (case side3 => repeat (first | exact (Kd.C_below HR0_1.out HB.out) | (with_reducible refine Kd.C_alloc ?_ _) | (with_reducible refine Kd.C_drewN ?_ _) | (with_reducible refine Kd.C_drew ?_)))
                          (case side4 => exact HC0_1.out)
                          rintro e w71 ⟨v204, rfl, ho0, hb⟩
                          refine ⟨_, rfl, ?_⟩
                          have n0_ := Aside0.mk (Kd.R_elder' (by (with_reducible repeat (first | apply Kd.R_alloc | apply Kd.R_drewN | apply Kd.R_drew)); exact HO_180000.out) (Kd.R_base ho0) hb)
                          have n1_ := Aside0.mk (Kd.R_below (by (with_reducible repeat (first | apply Kd.R_alloc | apply Kd.R_drewN | apply Kd.R_drew)); exact HO_180001.out) hb)
                          have n2_ := Aside0.mk (Kd.R_elder' (by (with_reducible repeat (first | apply Kd.R_alloc | apply Kd.R_drewN | apply Kd.R_drew)); exact HO_189000.out) (Kd.R_base ho0) hb)
                          have n3_ := Aside0.mk (Kd.R_below (by (with_reducible repeat (first | apply Kd.R_alloc | apply Kd.R_drewN | apply Kd.R_drew)); exact HO_189001.out) hb)
                          have n4_ := Aside0.mk (Kd.R_elder' (by (with_reducible repeat (first | apply Kd.R_alloc | apply Kd.R_drewN | apply Kd.R_drew)); exact HO202.out) (Kd.R_base ho0) hb)
                          have n5_ := Aside0.mk (Kd.R_lower (Kd.R_new' (Kd.R_new' (Kd.R_new' ho0 (Kd.R_lt (by (with_reducible repeat (first | apply Kd.R_alloc | apply Kd.R_drewN | apply Kd.R_drew)); exact HO_180000.out))) (Kd.R_lt (by (with_reducible repeat (first | apply Kd.R_alloc | apply Kd.R_drewN | apply Kd.R_drew)); exact HO_189000.out))) (Kd.R_lt (by (with_reducible repeat (first | apply Kd.R_alloc | apply Kd.R_drewN | apply Kd.R_drew)); exact HO202.out))) (below_size (by repeat (first | (with_reducible first | exact HB.out | apply below_alloc | apply pw_below_drewN | apply below_drew1 | refine below_set ?_ GE169.out | refine below_set ?_ GE179.out | refine below_set ?_ GE188.out) | exact HB.out))))
                          have n6_ := Aside0.mk (blk_below (g := gb169) (o := .cells #[.slice A0_0 l0_0.length c0_0, .slice A0_1 l0_1.length c0_1, .bool a0_2] 25 (0, 0)) (by (with_reducible repeat (first | refine blk_drewN ?_ _ | refine blk_drew ?_ | refine blk_alloc ?_ _)); exact BK169.out) hb)
                          have n7_ := Aside0.mk (blk_below (g := gb179) (o := .cells #[.slice Ao23 t171.length co23, .slice Ao26 t174.length co26, .bool t177] 25 (0, 0)) (by (with_reducible repeat (first | refine blk_drewN ?_ _ | refine blk_drew ?_ | refine blk_alloc ?_ _)); exact BK179.out) hb)
                          have n8_ := Aside0.mk (blk_below (g := gb188) (o := .cells #[.slice Ao29 t180.length co29, .slice Ao33 t183.length co33, .bool t186] 25 (0, 0)) (by (with_reducible repeat (first | refine blk_drewN ?_ _ | refine blk_drew ?_ | refine blk_alloc ?_ _)); exact BK188.out) hb)
                          have n9_ := Aside0.mk (below_step (by repeat (first | (with_reducible first | exact HB.out | apply below_alloc | apply pw_below_drewN | apply below_drew1 | refine below_set ?_ GE169.out | refine below_set ?_ GE179.out | refine below_set ?_ GE188.out) | exact HB.out)) hb)
                          clear HO_180000
                          clear HO_180001
                          clear HO_189000
                          clear HO_189001
                          clear HO202
                          clear BK169
                          clear BK179
                          clear BK188
                          clear HB
                          have HO_180000 := n0_
                          have HO_180001 := n1_
                          have HO_189000 := n2_
                          have HO_189001 := n3_
                          have HO202 := n4_
                          have HO205 := n5_
                          have BK169 := n6_
                          have BK179 := n7_
                          have BK188 := n8_
                          have HB := n9_
                          clear n0_ n1_ n2_ n3_ n4_ n5_ n6_ n7_ n8_ n9_
                          (try clear hb)
                          (try clear hb2)
                          (try clear hk)
                          (try clear hi)
                          (try clear ho0)
                          obtain ⟨Ao72, co72, eo72⟩ := Kd.R_slice HO202.out
                          (first | subst eo72 | (injection eo72 with f1_ f2_ f3_; have f4_ := f1_.symm; have f5_ := f3_.symm; clear f1_ f2_ f3_; subst f4_; subst f5_))
                          obtain ⟨Ao73, co73, eo73⟩ := Kd.R_slice HO205.out
                          (first | subst eo73 | (injection eo73 with f1_ f2_ f3_; have f4_ := f1_.symm; have f5_ := f3_.symm; clear f1_ f2_ f3_; subst f4_; subst f5_))
                          refine hK.out _ _ ⟨(blk_cell BK169.out 0).trans rfl, (blk_cell BK169.out 1).trans rfl, (blk_cell BK169.out 2).trans rfl⟩ (fun hHeld => ?_)
                          clear hK K
                          refine norm_ (a' := ?_) ?_ ?_
                          rotate_left
                          · show Act.put _ (some 103) _ = _
                            simp only [Act.put, List.setIfInBounds_toArray, List.set_cons_zero, List.set_cons_succ, i64_w, i32_w]
                            rfl
                          refine one_ (i := 4) (N := some 104) #[true, true, true, true, true, false] rfl rfl (by kernel_rfl) (by decide) (fun K hK => ?_)
                          refine goes_ Try.func18 (by kernel_rfl) rfl #[.slice Ao72 t200.length co72, .slice Ao73 t203.length co73] (by rfl) rfl rfl (by (try simp only [List.map_toArray, List.map_cons, List.map_nil]); first | done | rfl | (simp only [List.length_drop, List.length_take]; rfl)) ?_
                          with_reducible refine (copyholdref01_Strings.calls kj19 _ _ t200 _ _ t203 t206 _ ?side1 ?side2 ?side3 ?side4 A53.out).mono ?_
                          (case side1 => repeat (first | exact (Kd.R_reads' HO202.out).2.2 | (with_reducible refine Kd.C_alloc ?_ _) | (with_reducible refine Kd.C_drewN ?_ _) | (with_reducible refine Kd.C_drew ?_)))
                          (case side2 => exact (Kd.R_reads' HO202.out).2.1)
                          (case side3 => repeat (first | exact (Kd.R_reads' HO205.out).2.2 | (with_reducible refine Kd.C_alloc ?_ _) | (with_reducible refine Kd.C_drewN ?_ _) | (with_reducible refine Kd.C_drew ?_)))
                          (case side4 => exact (Kd.R_reads' HO205.out).2.1)
                          rintro e w' ⟨rfl, ⟨nd, rfl⟩⟩
                          refine ⟨_, rfl, ?_⟩
                          refine hK.out _ _ ⟨(blk_cell BK169.out 0).trans rfl, (blk_cell BK169.out 1).trans rfl, (blk_cell BK169.out 2).trans rfl⟩ (fun hHeld => ?_)
                          clear hK K
                          refine norm_ (a' := ?_) ?_ ?_
                          rotate_left
                          · show Act.put _ (some 104) _ = _
                            simp only [Act.put, List.setIfInBounds_toArray, List.set_cons_zero, List.set_cons_succ, i64_w, i32_w]
                            rfl
                          refine pure_ (i := 5) (N := some 22) (v := ?_) (a' := ?_) #[true, true, true, true, true, true] rfl rfl (by kernel_rfl) (fun _ _ _ h => h) (Or.inl ⟨by rfl, ?_⟩) ?_ ?_
                          rotate_left
                          · intro w'
                            go_simp
                            with_reducible rfl
                          rotate_left
                          · simp only [Act.put, List.setIfInBounds_toArray, List.set_cons_zero, List.set_cons_succ, i64_w, i32_w]
                            rfl
                          refine done_ (by kernel_rfl) ?_
                          try go_wp2
                          go_ret
                          exact ⟨by first | rfl | (simp [errW_none, errW_some] <;> rfl) | (simp [*, errW_none, errW_some] <;> rfl), by repeat (first | (with_reducible first | exact HB.out | apply below_alloc | apply pw_below_drewN | apply below_drew1 | refine below_set ?_ GE169.out | refine below_set ?_ GE179.out | refine below_set ?_ GE188.out) | exact HB.out)⟩
                        · rw [if_neg c58] at H
                          have c58b0 : (t197 == t199) = false := beq_eq_false_iff_ne.mpr c58
                          have c58b1 : (t197 != t199) = true := bne_iff_ne.mpr c58
                          obtain rfl := Option.some.inj H
                          have hnb74 := NB169_179.out
                          have hnc74 := NB179_169.out
                          have hnb75 := NB169_188.out
                          have hnc75 := NB188_169.out
                          have hcz76_0 : wc.cell? ⟨gb169, 0, none⟩ = some (.slice A0_0 l0_0.length c0_0) := (blk_cell BK169.out 0).trans rfl
                          have hcz76_1 : wc.cell? ⟨gb169, 1, none⟩ = some (.slice A0_1 l0_1.length c0_1) := (blk_cell BK169.out 1).trans rfl
                          have hcz76_2 : wc.cell? ⟨gb169, 2, none⟩ = some (.bool a0_2) := (blk_cell BK169.out 2).trans rfl
                          have hfz76_0 := blk_frozen BK169.out 0
                          have hfz76_1 := blk_frozen BK169.out 1
                          have hfz76_2 := blk_frozen BK169.out 2
                          try go_wp2_with (first | ((with_reducible refine gate_callee (f := 21) rfl ?_); refine goesL_ (some 77) rfl rfl Try.func21 (by kernel_rfl) rfl #[.agg #[.slice A0_0 l0_0.length c0_0, .slice A0_1 l0_1.length c0_1, .bool a0_2], .int .i64 a1] rfl (by (try simp only [List.map_toArray, List.map_cons, List.map_nil]); first | done | rfl | (simp only [List.length_drop, List.length_take]; rfl)) ?_; (with_reducible refine (disk_Read.calls _ _ l0_0 _ _ l0_1 a0_2 a1 t192 t193 _ ?side1 ?side2 ?side3 ?side4 A47.out).mono ?_); (case side1 => repeat (first | exact (Kd.C_below HR0_0.out HB.out) | (with_reducible refine Kd.C_alloc ?_ _) | (with_reducible refine Kd.C_drewN ?_ _) | (with_reducible refine Kd.C_drew ?_))); (case side2 => exact HC0_0.out); (case side3 => repeat (first | exact (Kd.C_below HR0_1.out HB.out) | (with_reducible refine Kd.C_alloc ?_ _) | (with_reducible refine Kd.C_drewN ?_ _) | (with_reducible refine Kd.C_drew ?_))); (case side4 => exact HC0_1.out); rintro e w77 ⟨rfl, hb⟩; refine ⟨_, rfl, ?_⟩; have n0_ := Aside0.mk (Kd.R_below (by (with_reducible repeat (first | apply Kd.R_alloc | apply Kd.R_drewN | apply Kd.R_drew)); exact HO_180000.out) hb); have n1_ := Aside0.mk (Kd.R_below (by (with_reducible repeat (first | apply Kd.R_alloc | apply Kd.R_drewN | apply Kd.R_drew)); exact HO_180001.out) hb); have n2_ := Aside0.mk (Kd.R_below (by (with_reducible repeat (first | apply Kd.R_alloc | apply Kd.R_drewN | apply Kd.R_drew)); exact HO_189000.out) hb); have n3_ := Aside0.mk (Kd.R_below (by (with_reducible repeat (first | apply Kd.R_alloc | apply Kd.R_drewN | apply Kd.R_drew)); exact HO_189001.out) hb); have n4_ := Aside0.mk (blk_below (g := gb169) (o := .cells #[.slice A0_0 l0_0.length c0_0, .slice A0_1 l0_1.length c0_1, .bool a0_2] 25 (0, 0)) (by (with_reducible repeat (first | refine blk_drewN ?_ _ | refine blk_drew ?_ | refine blk_alloc ?_ _)); exact BK169.out) hb); have n5_ := Aside0.mk (blk_below (g := gb179) (o := .cells #[.slice Ao23 t171.length co23, .slice Ao26 t174.length co26, .bool t177] 25 (0, 0)) (by (with_reducible repeat (first | refine blk_drewN ?_ _ | refine blk_drew ?_ | refine blk_alloc ?_ _)); exact BK179.out) hb); have n6_ := Aside0.mk (blk_below (g := gb188) (o := .cells #[.slice Ao29 t180.length co29, .slice Ao33 t183.length co33, .bool t186] 25 (0, 0)) (by (with_reducible repeat (first | refine blk_drewN ?_ _ | refine blk_drew ?_ | refine blk_alloc ?_ _)); exact BK188.out) hb); have n7_ := Aside0.mk (below_step (by repeat (first | (with_reducible first | exact HB.out | apply below_alloc | apply pw_below_drewN | apply below_drew1 | refine below_set ?_ GE169.out | refine below_set ?_ GE179.out | refine below_set ?_ GE188.out) | exact HB.out)) hb); clear HO_180000; clear HO_180001; clear HO_189000; clear HO_189001; clear BK169; clear BK179; clear BK188; clear HB; have HO_180000 := n0_; have HO_180001 := n1_; have HO_189000 := n2_; have HO_189001 := n3_; have BK169 := n4_; have BK179 := n5_; have BK188 := n6_; have HB := n7_; clear n0_ n1_ n2_ n3_ n4_ n5_ n6_ n7_; (try clear hb); (try clear hb2); (try clear hk); (try clear hi); have hcz78_0 : w77.cell? ⟨gb169, 0, none⟩ = some (.slice A0_0 l0_0.length c0_0) := (blk_cell BK169.out 0).trans rfl; have hcz78_1 : w77.cell? ⟨gb169, 1, none⟩ = some (.slice A0_1 l0_1.length c0_1) := (blk_cell BK169.out 1).trans rfl; have hcz78_2 : w77.cell? ⟨gb169, 2, none⟩ = some (.bool a0_2) := (blk_cell BK169.out 2).trans rfl; have hfz78_0 := blk_frozen BK169.out 0; have hfz78_1 := blk_frozen BK169.out 1; have hfz78_2 := blk_frozen BK169.out 2) | ((with_reducible refine gate_callee (f := 26) rfl ?_); refine goesL_ (some 83) rfl rfl Try.func26 (by kernel_rfl) rfl #[.agg #[.slice A0_0 l0_0.length c0_0, .slice A0_1 l0_1.length c0_1, .bool a0_2], .int .i64 a1] rfl (by (try simp only [List.map_toArray, List.map_cons, List.map_nil]); first | done | rfl | (simp only [List.length_drop, List.length_take]; rfl)) ?_; (with_reducible refine (copyholdref04_Read.calls kj19 _ _ l0_0 _ _ l0_1 a0_2 a1 t194 t195 _ ?side1 ?side2 ?side3 ?side4 A48.out).mono ?_); (case side1 => repeat (first | exact (Kd.C_below HR0_0.out HB.out) | (with_reducible refine Kd.C_alloc ?_ _) | (with_reducible refine Kd.C_drewN ?_ _) | (with_reducible refine Kd.C_drew ?_))); (case side2 => exact HC0_0.out); (case side3 => repeat (first | exact (Kd.C_below HR0_1.out HB.out) | (with_reducible refine Kd.C_alloc ?_ _) | (with_reducible refine Kd.C_drewN ?_ _) | (with_reducible refine Kd.C_drew ?_))); (case side4 => exact HC0_1.out); rintro e w79 ⟨rfl, hb⟩; refine ⟨_, rfl, ?_⟩; have n0_ := Aside0.mk (Kd.R_below (by (with_reducible repeat (first | apply Kd.R_alloc | apply Kd.R_drewN | apply Kd.R_drew)); exact HO_180000.out) hb); have n1_ := Aside0.mk (Kd.R_below (by (with_reducible repeat (first | apply Kd.R_alloc | apply Kd.R_drewN | apply Kd.R_drew)); exact HO_180001.out) hb); have n2_ := Aside0.mk (Kd.R_below (by (with_reducible repeat (first | apply Kd.R_alloc | apply Kd.R_drewN | apply Kd.R_drew)); exact HO_189000.out) hb); have n3_ := Aside0.mk (Kd.R_below (by (with_reducible repeat (first | apply Kd.R_alloc | apply Kd.R_drewN | apply Kd.R_drew)); exact HO_189001.out) hb); have n4_ := Aside0.mk (blk_below (g := gb169) (o := .cells #[.slice A0_0 l0_0.length c0_0, .slice A0_1 l0_1.length c0_1, .bool a0_2] 25 (0, 0)) (by (with_reducible repeat (first | refine blk_drewN ?_ _ | refine blk_drew ?_ | refine blk_alloc ?_ _)); exact BK169.out) hb); have n5_ := Aside0.mk (blk_below (g := gb179) (o := .cells #[.slice Ao23 t171.length co23, .slice Ao26 t174.length co26, .bool t177] 25 (0, 0)) (by (with_reducible repeat (first | refine blk_drewN ?_ _ | refine blk_drew ?_ | refine blk_alloc ?_ _)); exact BK179.out) hb); have n6_ := Aside0.mk (blk_below (g := gb188) (o := .cells #[.slice Ao29 t180.length co29, .slice Ao33 t183.length co33, .bool t186] 25 (0, 0)) (by (with_reducible repeat (first | refine blk_drewN ?_ _ | refine blk_drew ?_ | refine blk_alloc ?_ _)); exact BK188.out) hb); have n7_ := Aside0.mk (below_step (by repeat (first | (with_reducible first | exact HB.out | apply below_alloc | apply pw_below_drewN | apply below_drew1 | refine below_set ?_ GE169.out | refine below_set ?_ GE179.out | refine below_set ?_ GE188.out) | exact HB.out)) hb); clear HO_180000; clear HO_180001; clear HO_189000; clear HO_189001; clear BK169; clear BK179; clear BK188; clear HB; have HO_180000 := n0_; have HO_180001 := n1_; have HO_189000 := n2_; have HO_189001 := n3_; have BK169 := n4_; have BK179 := n5_; have BK188 := n6_; have HB := n7_; clear n0_ n1_ n2_ n3_ n4_ n5_ n6_ n7_; (try clear hb); (try clear hb2); (try clear hk); (try clear hi); have hcz80_0 : w79.cell? ⟨gb169, 0, none⟩ = some (.slice A0_0 l0_0.length c0_0) := (blk_cell BK169.out 0).trans rfl; have hcz80_1 : w79.cell? ⟨gb169, 1, none⟩ = some (.slice A0_1 l0_1.length c0_1) := (blk_cell BK169.out 1).trans rfl; have hcz80_2 : w79.cell? ⟨gb169, 2, none⟩ = some (.bool a0_2) := (blk_cell BK169.out 2).trans rfl; have hfz80_0 := blk_frozen BK169.out 0; have hfz80_1 := blk_frozen BK169.out 1; have hfz80_2 := blk_frozen BK169.out 2) | ((with_reducible refine gate_callee (f := 22) rfl ?_); refine goesL_ (some 90) rfl rfl Try.func22 (by kernel_rfl) rfl #[.agg #[.slice A0_0 l0_0.length c0_0, .slice A0_1 l0_1.length c0_1, .bool a0_2], .int .i64 a1, .int .i64 a2] rfl (by (try simp only [List.map_toArray, List.map_cons, List.map_nil]); first | done | rfl | (simp only [List.length_drop, List.length_take]; rfl)) ?_; (with_reducible refine (disk_Stretch.calls _ _ l0_0 _ _ l0_1 a0_2 a1 a2 t196 t197 _ ?side1 ?side2 ?side3 ?side4 A49.out).mono ?_); (case side1 => repeat (first | exact (Kd.C_below HR0_0.out HB.out) | (with_reducible refine Kd.C_alloc ?_ _) | (with_reducible refine Kd.C_drewN ?_ _) | (with_reducible refine Kd.C_drew ?_))); (case side2 => exact HC0_0.out); (case side3 => repeat (first | exact (Kd.C_below HR0_1.out HB.out) | (with_reducible refine Kd.C_alloc ?_ _) | (with_reducible refine Kd.C_drewN ?_ _) | (with_reducible refine Kd.C_drew ?_))); (case side4 => exact HC0_1.out); rintro e w81 ⟨rfl, hb⟩; refine ⟨_, rfl, ?_⟩; have n0_ := Aside0.mk (Kd.R_below (by (with_reducible repeat (first | apply Kd.R_alloc | apply Kd.R_drewN | apply Kd.R_drew)); exact HO_180000.out) hb); have n1_ := Aside0.mk (Kd.R_below (by (with_reducible repeat (first | apply Kd.R_alloc | apply Kd.R_drewN | apply Kd.R_drew)); exact HO_180001.out) hb); have n2_ := Aside0.mk (Kd.R_below (by (with_reducible repeat (first | apply Kd.R_alloc | apply Kd.R_drewN | apply Kd.R_drew)); exact HO_189000.out) hb); have n3_ := Aside0.mk (Kd.R_below (by (with_reducible repeat (first | apply Kd.R_alloc | apply Kd.R_drewN | apply Kd.R_drew)); exact HO_189001.out) hb); have n4_ := Aside0.mk (blk_below (g := gb169) (o := .cells #[.slice A0_0 l0_0.length c0_0, .slice A0_1 l0_1.length c0_1, .bool a0_2] 25 (0, 0)) (by (with_reducible repeat (first | refine blk_drewN ?_ _ | refine blk_drew ?_ | refine blk_alloc ?_ _)); exact BK169.out) hb); have n5_ := Aside0.mk (blk_below (g := gb179) (o := .cells #[.slice Ao23 t171.length co23, .slice Ao26 t174.length co26, .bool t177] 25 (0, 0)) (by (with_reducible repeat (first | refine blk_drewN ?_ _ | refine blk_drew ?_ | refine blk_alloc ?_ _)); exact BK179.out) hb); have n6_ := Aside0.mk (blk_below (g := gb188) (o := .cells #[.slice Ao29 t180.length co29, .slice Ao33 t183.length co33, .bool t186] 25 (0, 0)) (by (with_reducible repeat (first | refine blk_drewN ?_ _ | refine blk_drew ?_ | refine blk_alloc ?_ _)); exact BK188.out) hb); have n7_ := Aside0.mk (below_step (by repeat (first | (with_reducible first | exact HB.out | apply below_alloc | apply pw_below_drewN | apply below_drew1 | refine below_set ?_ GE169.out | refine below_set ?_ GE179.out | refine below_set ?_ GE188.out) | exact HB.out)) hb); clear HO_180000; clear HO_180001; clear HO_189000; clear HO_189001; clear BK169; clear BK179; clear BK188; clear HB; have HO_180000 := n0_; have HO_180001 := n1_; have HO_189000 := n2_; have HO_189001 := n3_; have BK169 := n4_; have BK179 := n5_; have BK188 := n6_; have HB := n7_; clear n0_ n1_ n2_ n3_ n4_ n5_ n6_ n7_; (try clear hb); (try clear hb2); (try clear hk); (try clear hi); have hcz82_0 : w81.cell? ⟨gb169, 0, none⟩ = some (.slice A0_0 l0_0.length c0_0) := (blk_cell BK169.out 0).trans rfl; have hcz82_1 : w81.cell? ⟨gb169, 1, none⟩ = some (.slice A0_1 l0_1.length c0_1) := (blk_cell BK169.out 1).trans rfl; have hcz82_2 : w81.cell? ⟨gb169, 2, none⟩ = some (.bool a0_2) := (blk_cell BK169.out 2).trans rfl; have hfz82_0 := blk_frozen BK169.out 0; have hfz82_1 := blk_frozen BK169.out 1; have hfz82_2 := blk_frozen BK169.out 2) | ((with_reducible refine gate_callee (f := 27) rfl ?_); refine goesL_ (some 97) rfl rfl Try.func27 (by kernel_rfl) rfl #[.agg #[.slice A0_0 l0_0.length c0_0, .slice A0_1 l0_1.length c0_1, .bool a0_2], .int .i64 a1, .int .i64 a2] rfl (by (try simp only [List.map_toArray, List.map_cons, List.map_nil]); first | done | rfl | (simp only [List.length_drop, List.length_take]; rfl)) ?_; (with_reducible refine (copyholdref04_Stretch.calls kj19 _ _ l0_0 _ _ l0_1 a0_2 a1 a2 t198 t199 _ ?side1 ?side2 ?side3 ?side4 A50.out).mono ?_); (case side1 => repeat (first | exact (Kd.C_below HR0_0.out HB.out) | (with_reducible refine Kd.C_alloc ?_ _) | (with_reducible refine Kd.C_drewN ?_ _) | (with_reducible refine Kd.C_drew ?_))); (case side2 => exact HC0_0.out); (case side3 => repeat (first | exact (Kd.C_below HR0_1.out HB.out) | (with_reducible refine Kd.C_alloc ?_ _) | (with_reducible refine Kd.C_drewN ?_ _) | (with_reducible refine Kd.C_drew ?_))); (case side4 => exact HC0_1.out); rintro e w83 ⟨rfl, hb⟩; refine ⟨_, rfl, ?_⟩; have n0_ := Aside0.mk (Kd.R_below (by (with_reducible repeat (first | apply Kd.R_alloc | apply Kd.R_drewN | apply Kd.R_drew)); exact HO_180000.out) hb); have n1_ := Aside0.mk (Kd.R_below (by (with_reducible repeat (first | apply Kd.R_alloc | apply Kd.R_drewN | apply Kd.R_drew)); exact HO_180001.out) hb); have n2_ := Aside0.mk (Kd.R_below (by (with_reducible repeat (first | apply Kd.R_alloc | apply Kd.R_drewN | apply Kd.R_drew)); exact HO_189000.out) hb); have n3_ := Aside0.mk (Kd.R_below (by (with_reducible repeat (first | apply Kd.R_alloc | apply Kd.R_drewN | apply Kd.R_drew)); exact HO_189001.out) hb); have n4_ := Aside0.mk (blk_below (g := gb169) (o := .cells #[.slice A0_0 l0_0.length c0_0, .slice A0_1 l0_1.length c0_1, .bool a0_2] 25 (0, 0)) (by (with_reducible repeat (first | refine blk_drewN ?_ _ | refine blk_drew ?_ | refine blk_alloc ?_ _)); exact BK169.out) hb); have n5_ := Aside0.mk (blk_below (g := gb179) (o := .cells #[.slice Ao23 t171.length co23, .slice Ao26 t174.length co26, .bool t177] 25 (0, 0)) (by (with_reducible repeat (first | refine blk_drewN ?_ _ | refine blk_drew ?_ | refine blk_alloc ?_ _)); exact BK179.out) hb); have n6_ := Aside0.mk (blk_below (g := gb188) (o := .cells #[.slice Ao29 t180.length co29, .slice Ao33 t183.length co33, .bool t186] 25 (0, 0)) (by (with_reducible repeat (first | refine blk_drewN ?_ _ | refine blk_drew ?_ | refine blk_alloc ?_ _)); exact BK188.out) hb); have n7_ := Aside0.mk (below_step (by repeat (first | (with_reducible first | exact HB.out | apply below_alloc | apply pw_below_drewN | apply below_drew1 | refine below_set ?_ GE169.out | refine below_set ?_ GE179.out | refine below_set ?_ GE188.out) | exact HB.out)) hb); clear HO_180000; clear HO_180001; clear HO_189000; clear HO_189001; clear BK169; clear BK179; clear BK188; clear HB; have HO_180000 := n0_; have HO_180001 := n1_; have HO_189000 := n2_; have HO_189001 := n3_; have BK169 := n4_; have BK179 := n5_; have BK188 := n6_; have HB := n7_; clear n0_ n1_ n2_ n3_ n4_ n5_ n6_ n7_; (try clear hb); (try clear hb2); (try clear hk); (try clear hi)))
                          have n0_ := Aside0.mk (Kd.R_drew HO_180000.out)
                          have n1_ := Aside0.mk (Kd.R_drew HO_180001.out)
                          have n2_ := Aside0.mk (Kd.R_drew HO_189000.out)
                          have n3_ := Aside0.mk (Kd.R_drew HO_189001.out)
                          have n4_ := Aside0.mk (blk_drew BK169.out)
                          have n5_ := Aside0.mk (blk_drew BK179.out)
                          have n6_ := Aside0.mk (blk_drew BK188.out)
                          have n7_ := Aside0.mk (below_drew1 HB.out)
                          clear HO_180000
                          clear HO_180001
                          clear HO_189000
                          clear HO_189001
                          clear BK169
                          clear BK179
                          clear BK188
                          clear HB
                          have HO_180000 := n0_
                          have HO_180001 := n1_
                          have HO_189000 := n2_
                          have HO_189001 := n3_
                          have BK169 := n4_
                          have BK179 := n5_
                          have BK188 := n6_
                          have HB := n7_
                          clear n0_ n1_ n2_ n3_ n4_ n5_ n6_ n7_
                          refine start_ (n := 6) (S := fun w' => w'.cell? ⟨gb169, 0, none⟩ = some (.slice A0_0 l0_0.length c0_0) ∧ w'.cell? ⟨gb169, 1, none⟩ = some (.slice A0_1 l0_1.length c0_1) ∧ w'.cell? ⟨gb169, 2, none⟩ = some (.bool a0_2)) (ds := []) #[false, false, false, false, false, false] (by kernel_rfl) rfl rfl ⟨(blk_cell BK169.out 0).trans rfl, (blk_cell BK169.out 1).trans rfl, (blk_cell BK169.out 2).trans rfl⟩ (fun hHeld => ?_)
                          generalize w83.drew = w84 at HO_180000 HO_180001 HO_189000 HO_189001 BK169 BK179 BK188 HB hHeld ⊢
                          refine take_ (i := 0) (N := some 100) (v := ?_) (a' := ?_) #[true, false, false, false, false, false] rfl rfl (by kernel_rfl) (fun _ _ _ h => h) (Or.inl ⟨by rfl, ?_⟩) hHeld ?_ ?_
                          rotate_left
                          · rintro w' ⟨s0, s1, s2⟩
                            go_simp
                            with_reducible rfl
                          rotate_left
                          · simp only [Act.put, List.setIfInBounds_toArray, List.set_cons_zero, List.set_cons_succ, i64_w, i32_w]
                            rfl
                          refine take_ (i := 2) (N := some 102) (v := ?_) (a' := ?_) #[true, false, true, false, false, false] rfl rfl (by kernel_rfl) (fun _ _ _ h => h) (Or.inl ⟨by rfl, ?_⟩) hHeld ?_ ?_
                          rotate_left
                          · rintro w' ⟨s0, s1, s2⟩
                            go_simp
                            with_reducible rfl
                          rotate_left
                          · simp only [Act.put, List.setIfInBounds_toArray, List.set_cons_zero, List.set_cons_succ, i64_w, i32_w]
                            rfl
                          refine one_ (i := 1) (N := some 101) #[true, true, true, false, false, false] rfl rfl (by kernel_rfl) (by decide) (fun K hK => ?_)
                          refine goes_ Try.func19 (by kernel_rfl) rfl #[.agg #[.slice A0_0 l0_0.length c0_0, .slice A0_1 l0_1.length c0_1, .bool a0_2]] (by rfl) rfl rfl (by (try simp only [List.map_toArray, List.map_cons, List.map_nil]); first | done | rfl | (simp only [List.length_drop, List.length_take]; rfl)) ?_
                          with_reducible refine (disk_Image.calls _ _ l0_0 _ _ l0_1 a0_2 t200 _ ?side1 ?side2 ?side3 ?side4 A51.out).mono ?_
                          (case side1 => repeat (first | exact (Kd.C_below HR0_0.out HB.out) | (with_reducible refine Kd.C_alloc ?_ _) | (with_reducible refine Kd.C_drewN ?_ _) | (with_reducible refine Kd.C_drew ?_)))
                          (case side2 => exact HC0_0.out)
                          (case side3 => repeat (first | exact (Kd.C_below HR0_1.out HB.out) | (with_reducible refine Kd.C_alloc ?_ _) | (with_reducible refine Kd.C_drewN ?_ _) | (with_reducible refine Kd.C_drew ?_)))
                          (case side4 => exact HC0_1.out)
                          rintro e w85 ⟨v201, rfl, ho0, hb⟩
                          refine ⟨_, rfl, ?_⟩
                          have n0_ := Aside0.mk (Kd.R_elder' (by (with_reducible repeat (first | apply Kd.R_alloc | apply Kd.R_drewN | apply Kd.R_drew)); exact HO_180000.out) (Kd.R_base ho0) hb)
                          have n1_ := Aside0.mk (Kd.R_below (by (with_reducible repeat (first | apply Kd.R_alloc | apply Kd.R_drewN | apply Kd.R_drew)); exact HO_180001.out) hb)
                          have n2_ := Aside0.mk (Kd.R_elder' (by (with_reducible repeat (first | apply Kd.R_alloc | apply Kd.R_drewN | apply Kd.R_drew)); exact HO_189000.out) (Kd.R_base ho0) hb)
                          have n3_ := Aside0.mk (Kd.R_below (by (with_reducible repeat (first | apply Kd.R_alloc | apply Kd.R_drewN | apply Kd.R_drew)); exact HO_189001.out) hb)
                          have n4_ := Aside0.mk (Kd.R_lower (Kd.R_new' (Kd.R_new' ho0 (Kd.R_lt (by (with_reducible repeat (first | apply Kd.R_alloc | apply Kd.R_drewN | apply Kd.R_drew)); exact HO_180000.out))) (Kd.R_lt (by (with_reducible repeat (first | apply Kd.R_alloc | apply Kd.R_drewN | apply Kd.R_drew)); exact HO_189000.out))) (below_size (by repeat (first | (with_reducible first | exact HB.out | apply below_alloc | apply pw_below_drewN | apply below_drew1 | refine below_set ?_ GE169.out | refine below_set ?_ GE179.out | refine below_set ?_ GE188.out) | exact HB.out))))
                          have n5_ := Aside0.mk (blk_below (g := gb169) (o := .cells #[.slice A0_0 l0_0.length c0_0, .slice A0_1 l0_1.length c0_1, .bool a0_2] 25 (0, 0)) (by (with_reducible repeat (first | refine blk_drewN ?_ _ | refine blk_drew ?_ | refine blk_alloc ?_ _)); exact BK169.out) hb)
                          have n6_ := Aside0.mk (blk_below (g := gb179) (o := .cells #[.slice Ao23 t171.length co23, .slice Ao26 t174.length co26, .bool t177] 25 (0, 0)) (by (with_reducible repeat (first | refine blk_drewN ?_ _ | refine blk_drew ?_ | refine blk_alloc ?_ _)); exact BK179.out) hb)
                          have n7_ := Aside0.mk (blk_below (g := gb188) (o := .cells #[.slice Ao29 t180.length co29, .slice Ao33 t183.length co33, .bool t186] 25 (0, 0)) (by (with_reducible repeat (first | refine blk_drewN ?_ _ | refine blk_drew ?_ | refine blk_alloc ?_ _)); exact BK188.out) hb)
                          have n8_ := Aside0.mk (below_step (by repeat (first | (with_reducible first | exact HB.out | apply below_alloc | apply pw_below_drewN | apply below_drew1 | refine below_set ?_ GE169.out | refine below_set ?_ GE179.out | refine below_set ?_ GE188.out) | exact HB.out)) hb)
                          clear HO_180000
                          clear HO_180001
                          clear HO_189000
                          clear HO_189001
                          clear BK169
                          clear BK179
                          clear BK188
                          clear HB
                          have HO_180000 := n0_
                          have HO_180001 := n1_
                          have HO_189000 := n2_
                          have HO_189001 := n3_
                          have HO202 := n4_
                          have BK169 := n5_
                          have BK179 := n6_
                          have BK188 := n7_
                          have HB := n8_
                          clear n0_ n1_ n2_ n3_ n4_ n5_ n6_ n7_ n8_
                          (try clear hb)
                          (try clear hb2)
                          (try clear hk)
                          (try clear hi)
                          (try clear ho0)
                          refine hK.out _ _ ⟨(blk_cell BK169.out 0).trans rfl, (blk_cell BK169.out 1).trans rfl, (blk_cell BK169.out 2).trans rfl⟩ (fun hHeld => ?_)
                          clear hK K
                          refine norm_ (a' := ?_) ?_ ?_
                          rotate_left
                          · show Act.put _ (some 101) _ = _
                            simp only [Act.put, List.setIfInBounds_toArray, List.set_cons_zero, List.set_cons_succ, i64_w, i32_w]
                            rfl
                          refine one_ (i := 3) (N := some 103) #[true, true, true, true, false, false] rfl rfl (by kernel_rfl) (by decide) (fun K hK => ?_)
                          refine goes_ Try.func28 (by kernel_rfl) rfl #[.agg #[.slice A0_0 l0_0.length c0_0, .slice A0_1 l0_1.length c0_1, .bool a0_2]] (by rfl) rfl rfl (by (try simp only [List.map_toArray, List.map_cons, List.map_nil]); first | done | rfl | (simp only [List.length_drop, List.length_take]; rfl)) ?_
                          with_reducible refine (copyholdref04_Image.calls kj19 _ _ l0_0 _ _ l0_1 a0_2 t203 _ ?side1 ?side2 ?side3 ?side4 A52.out).mono ?_
                          (case side1 => repeat (first | exact (Kd.C_below HR0_0.out HB.out) | (with_reducible refine Kd.C_alloc ?_ _) | (with_reducible refine Kd.C_drewN ?_ _) | (with_reducible refine Kd.C_drew ?_)))
                          (case side2 => exact HC0_0.out)
                          (case side3 => repeat (first | exact (Kd.C_below HR0_1.out HB.out) | (with_reducible refine Kd.C_alloc ?_ _) | (with_reducible refine Kd.C_drewN ?_ _) | (with_reducible refine Kd.C_drew ?_)))
                          (case side4 => exact HC0_1.out)
                          rintro e w86 ⟨v204, rfl, ho0, hb⟩
                          refine ⟨_, rfl, ?_⟩
                          have n0_ := Aside0.mk (Kd.R_elder' (by (with_reducible repeat (first | apply Kd.R_alloc | apply Kd.R_drewN | apply Kd.R_drew)); exact HO_180000.out) (Kd.R_base ho0) hb)
                          have n1_ := Aside0.mk (Kd.R_below (by (with_reducible repeat (first | apply Kd.R_alloc | apply Kd.R_drewN | apply Kd.R_drew)); exact HO_180001.out) hb)
                          have n2_ := Aside0.mk (Kd.R_elder' (by (with_reducible repeat (first | apply Kd.R_alloc | apply Kd.R_drewN | apply Kd.R_drew)); exact HO_189000.out) (Kd.R_base ho0) hb)
                          have n3_ := Aside0.mk (Kd.R_below (by (with_reducible repeat (first | apply Kd.R_alloc | apply Kd.R_drewN | apply Kd.R_drew)); exact HO_189001.out) hb)
                          have n4_ := Aside0.mk (Kd.R_elder' (by (with_reducible repeat (first | apply Kd.R_alloc | apply Kd.R_drewN | apply Kd.R_drew)); exact HO202.out) (Kd.R_base ho0) hb)
                          have n5_ := Aside0.mk (Kd.R_lower (Kd.R_new' (Kd.R_new' (Kd.R_new' ho0 (Kd.R_lt (by (with_reducible repeat (first | apply Kd.R_alloc | apply Kd.R_drewN | apply Kd.R_drew)); exact HO_180000.out))) (Kd.R_lt (by (with_reducible repeat (first | apply Kd.R_alloc | apply Kd.R_drewN | apply Kd.R_drew)); exact HO_189000.out))) (Kd.R_lt (by (with_reducible repeat (first | apply Kd.R_alloc | apply Kd.R_drewN | apply Kd.R_drew)); exact HO202.out))) (below_size (by repeat (first | (with_reducible first | exact HB.out | apply below_alloc | apply pw_below_drewN | apply below_drew1 | refine below_set ?_ GE169.out | refine below_set ?_ GE179.out | refine below_set ?_ GE188.out) | exact HB.out))))
                          have n6_ := Aside0.mk (blk_below (g := gb169) (o := .cells #[.slice A0_0 l0_0.length c0_0, .slice A0_1 l0_1.length c0_1, .bool a0_2] 25 (0, 0)) (by (with_reducible repeat (first | refine blk_drewN ?_ _ | refine blk_drew ?_ | refine blk_alloc ?_ _)); exact BK169.out) hb)
                          have n7_ := Aside0.mk (blk_below (g := gb179) (o := .cells #[.slice Ao23 t171.length co23, .slice Ao26 t174.length co26, .bool t177] 25 (0, 0)) (by (with_reducible repeat (first | refine blk_drewN ?_ _ | refine blk_drew ?_ | refine blk_alloc ?_ _)); exact BK179.out) hb)
                          have n8_ := Aside0.mk (blk_below (g := gb188) (o := .cells #[.slice Ao29 t180.length co29, .slice Ao33 t183.length co33, .bool t186] 25 (0, 0)) (by (with_reducible repeat (first | refine blk_drewN ?_ _ | refine blk_drew ?_ | refine blk_alloc ?_ _)); exact BK188.out) hb)
                          have n9_ := Aside0.mk (below_step (by repeat (first | (with_reducible first | exact HB.out | apply below_alloc | apply pw_below_drewN | apply below_drew1 | refine below_set ?_ GE169.out | refine below_set ?_ GE179.out | refine below_set ?_ GE188.out) | exact HB.out)) hb)
                          clear HO_180000
                          clear HO_180001
                          clear HO_189000
                          clear HO_189001
                          clear HO202
                          clear BK169
                          clear BK179
                          clear BK188
                          clear HB
                          have HO_180000 := n0_
                          have HO_180001 := n1_
                          have HO_189000 := n2_
                          have HO_189001 := n3_
                          have HO202 := n4_
                          have HO205 := n5_
                          have BK169 := n6_
                          have BK179 := n7_
                          have BK188 := n8_
                          have HB := n9_
                          clear n0_ n1_ n2_ n3_ n4_ n5_ n6_ n7_ n8_ n9_
                          (try clear hb)
                          (try clear hb2)
                          (try clear hk)
                          (try clear hi)
                          (try clear ho0)
                          obtain ⟨Ao87, co87, eo87⟩ := Kd.R_slice HO202.out
                          (first | subst eo87 | (injection eo87 with f1_ f2_ f3_; have f4_ := f1_.symm; have f5_ := f3_.symm; clear f1_ f2_ f3_; subst f4_; subst f5_))
                          obtain ⟨Ao88, co88, eo88⟩ := Kd.R_slice HO205.out
                          (first | subst eo88 | (injection eo88 with f1_ f2_ f3_; have f4_ := f1_.symm; have f5_ := f3_.symm; clear f1_ f2_ f3_; subst f4_; subst f5_))
                          refine hK.out _ _ ⟨(blk_cell BK169.out 0).trans rfl, (blk_cell BK169.out 1).trans rfl, (blk_cell BK169.out 2).trans rfl⟩ (fun hHeld => ?_)
                          clear hK K
                          refine norm_ (a' := ?_) ?_ ?_
                          rotate_left
                          · show Act.put _ (some 103) _ = _
                            simp only [Act.put, List.setIfInBounds_toArray, List.set_cons_zero, List.set_cons_succ, i64_w, i32_w]
                            rfl
                          refine one_ (i := 4) (N := some 104) #[true, true, true, true, true, false] rfl rfl (by kernel_rfl) (by decide) (fun K hK => ?_)
                          refine goes_ Try.func18 (by kernel_rfl) rfl #[.slice Ao87 t200.length co87, .slice Ao88 t203.length co88] (by rfl) rfl rfl (by (try simp only [List.map_toArray, List.map_cons, List.map_nil]); first | done | rfl | (simp only [List.length_drop, List.length_take]; rfl)) ?_
                          with_reducible refine (copyholdref01_Strings.calls kj19 _ _ t200 _ _ t203 t206 _ ?side1 ?side2 ?side3 ?side4 A53.out).mono ?_
                          (case side1 => repeat (first | exact (Kd.R_reads' HO202.out).2.2 | (with_reducible refine Kd.C_alloc ?_ _) | (with_reducible refine Kd.C_drewN ?_ _) | (with_reducible refine Kd.C_drew ?_)))
                          (case side2 => exact (Kd.R_reads' HO202.out).2.1)
                          (case side3 => repeat (first | exact (Kd.R_reads' HO205.out).2.2 | (with_reducible refine Kd.C_alloc ?_ _) | (with_reducible refine Kd.C_drewN ?_ _) | (with_reducible refine Kd.C_drew ?_)))
                          (case side4 => exact (Kd.R_reads' HO205.out).2.1)
                          rintro e w' ⟨rfl, ⟨nd, rfl⟩⟩
                          refine ⟨_, rfl, ?_⟩
                          refine hK.out _ _ ⟨(blk_cell BK169.out 0).trans rfl, (blk_cell BK169.out 1).trans rfl, (blk_cell BK169.out 2).trans rfl⟩ (fun hHeld => ?_)
                          clear hK K
                          refine norm_ (a' := ?_) ?_ ?_
                          rotate_left
                          · show Act.put _ (some 104) _ = _
                            simp only [Act.put, List.setIfInBounds_toArray, List.set_cons_zero, List.set_cons_succ, i64_w, i32_w]
                            rfl
                          refine pure_ (i := 5) (N := some 22) (v := ?_) (a' := ?_) #[true, true, true, true, true, true] rfl rfl (by kernel_rfl) (fun _ _ _ h => h) (Or.inl ⟨by rfl, ?_⟩) ?_ ?_
                          rotate_left
                          · intro w'
                            go_simp
                            with_reducible rfl
                          rotate_left
                          · simp only [Act.put, List.setIfInBounds_toArray, List.set_cons_zero, List.set_cons_succ, i64_w, i32_w]
                            rfl
                          refine done_ (by kernel_rfl) ?_
                          try go_wp2
                          go_ret
                          exact ⟨by first | rfl | (simp [errW_none, errW_some] <;> rfl) | (simp [*, errW_none, errW_some] <;> rfl), by repeat (first | (with_reducible first | exact HB.out | apply below_alloc | apply pw_below_drewN | apply below_drew1 | refine below_set ?_ GE169.out | refine below_set ?_ GE179.out | refine below_set ?_ GE188.out) | exact HB.out)⟩
                      · rw [if_neg c57] at H
                        have c57b0 : (t196.toList == t198.toList) = false := beq_eq_false_iff_ne.mpr c57
                        have c57b1 : (t196.toList != t198.toList) = true := bne_iff_ne.mpr c57
                        obtain rfl := Option.some.inj H
                        have hnb89 := NB169_179.out
                        have hnc89 := NB179_169.out
                        have hnb90 := NB169_188.out
                        have hnc90 := NB188_169.out
                        have hcz91_0 : wc.cell? ⟨gb169, 0, none⟩ = some (.slice A0_0 l0_0.length c0_0) := (blk_cell BK169.out 0).trans rfl
                        have hcz91_1 : wc.cell? ⟨gb169, 1, none⟩ = some (.slice A0_1 l0_1.length c0_1) := (blk_cell BK169.out 1).trans rfl
                        have hcz91_2 : wc.cell? ⟨gb169, 2, none⟩ = some (.bool a0_2) := (blk_cell BK169.out 2).trans rfl
                        have hfz91_0 := blk_frozen BK169.out 0
                        have hfz91_1 := blk_frozen BK169.out 1
                        have hfz91_2 := blk_frozen BK169.out 2
                        try go_wp2_with (first | ((with_reducible refine gate_callee (f := 21) rfl ?_); refine goesL_ (some 77) rfl rfl Try.func21 (by kernel_rfl) rfl #[.agg #[.slice A0_0 l0_0.length c0_0, .slice A0_1 l0_1.length c0_1, .bool a0_2], .int .i64 a1] rfl (by (try simp only [List.map_toArray, List.map_cons, List.map_nil]); first | done | rfl | (simp only [List.length_drop, List.length_take]; rfl)) ?_; (with_reducible refine (disk_Read.calls _ _ l0_0 _ _ l0_1 a0_2 a1 t192 t193 _ ?side1 ?side2 ?side3 ?side4 A47.out).mono ?_); (case side1 => repeat (first | exact (Kd.C_below HR0_0.out HB.out) | (with_reducible refine Kd.C_alloc ?_ _) | (with_reducible refine Kd.C_drewN ?_ _) | (with_reducible refine Kd.C_drew ?_))); (case side2 => exact HC0_0.out); (case side3 => repeat (first | exact (Kd.C_below HR0_1.out HB.out) | (with_reducible refine Kd.C_alloc ?_ _) | (with_reducible refine Kd.C_drewN ?_ _) | (with_reducible refine Kd.C_drew ?_))); (case side4 => exact HC0_1.out); rintro e w92 ⟨rfl, hb⟩; refine ⟨_, rfl, ?_⟩; have n0_ := Aside0.mk (Kd.R_below (by (with_reducible repeat (first | apply Kd.R_alloc | apply Kd.R_drewN | apply Kd.R_drew)); exact HO_180000.out) hb); have n1_ := Aside0.mk (Kd.R_below (by (with_reducible repeat (first | apply Kd.R_alloc | apply Kd.R_drewN | apply Kd.R_drew)); exact HO_180001.out) hb); have n2_ := Aside0.mk (Kd.R_below (by (with_reducible repeat (first | apply Kd.R_alloc | apply Kd.R_drewN | apply Kd.R_drew)); exact HO_189000.out) hb); have n3_ := Aside0.mk (Kd.R_below (by (with_reducible repeat (first | apply Kd.R_alloc | apply Kd.R_drewN | apply Kd.R_drew)); exact HO_189001.out) hb); have n4_ := Aside0.mk (blk_below (g := gb169) (o := .cells #[.slice A0_0 l0_0.length c0_0, .slice A0_1 l0_1.length c0_1, .bool a0_2] 25 (0, 0)) (by (with_reducible repeat (first | refine blk_drewN ?_ _ | refine blk_drew ?_ | refine blk_alloc ?_ _)); exact BK169.out) hb); have n5_ := Aside0.mk (blk_below (g := gb179) (o := .cells #[.slice Ao23 t171.length co23, .slice Ao26 t174.length co26, .bool t177] 25 (0, 0)) (by (with_reducible repeat (first | refine blk_drewN ?_ _ | refine blk_drew ?_ | refine blk_alloc ?_ _)); exact BK179.out) hb); have n6_ := Aside0.mk (blk_below (g := gb188) (o := .cells #[.slice Ao29 t180.length co29, .slice Ao33 t183.length co33, .bool t186] 25 (0, 0)) (by (with_reducible repeat (first | refine blk_drewN ?_ _ | refine blk_drew ?_ | refine blk_alloc ?_ _)); exact BK188.out) hb); have n7_ := Aside0.mk (below_step (by repeat (first | (with_reducible first | exact HB.out | apply below_alloc | apply pw_below_drewN | apply below_drew1 | refine below_set ?_ GE169.out | refine below_set ?_ GE179.out | refine below_set ?_ GE188.out) | exact HB.out)) hb); clear HO_180000; clear HO_180001; clear HO_189000; clear HO_189001; clear BK169; clear BK179; clear BK188; clear HB; have HO_180000 := n0_; have HO_180001 := n1_; have HO_189000 := n2_; have HO_189001 := n3_; have BK169 := n4_; have BK179 := n5_; have BK188 := n6_; have HB := n7_; clear n0_ n1_ n2_ n3_ n4_ n5_ n6_ n7_; (try clear hb); (try clear hb2); (try clear hk); (try clear hi); have hcz93_0 : w92.cell? ⟨gb169, 0, none⟩ = some (.slice A0_0 l0_0.length c0_0) := (blk_cell BK169.out 0).trans rfl; have hcz93_1 : w92.cell? ⟨gb169, 1, none⟩ = some (.slice A0_1 l0_1.length c0_1) := (blk_cell BK169.out 1).trans rfl; have hcz93_2 : w92.cell? ⟨gb169, 2, none⟩ = some (.bool a0_2) := (blk_cell BK169.out 2).trans rfl; have hfz93_0 := blk_frozen BK169.out 0; have hfz93_1 := blk_frozen BK169.out 1; have hfz93_2 := blk_frozen BK169.out 2) | ((with_reducible refine gate_callee (f := 26) rfl ?_); refine goesL_ (some 83) rfl rfl Try.func26 (by kernel_rfl) rfl #[.agg #[.slice A0_0 l0_0.length c0_0, .slice A0_1 l0_1.length c0_1, .bool a0_2], .int .i64 a1] rfl (by (try simp only [List.map_toArray, List.map_cons, List.map_nil]); first | done | rfl | (simp only [List.length_drop, List.length_take]; rfl)) ?_; (with_reducible refine (copyholdref04_Read.calls kj19 _ _ l0_0 _ _ l0_1 a0_2 a1 t194 t195 _ ?side1 ?side2 ?side3 ?side4 A48.out).mono ?_); (case side1 => repeat (first | exact (Kd.C_below HR0_0.out HB.out) | (with_reducible refine Kd.C_alloc ?_ _) | (with_reducible refine Kd.C_drewN ?_ _) | (with_reducible refine Kd.C_drew ?_))); (case side2 => exact HC0_0.out); (case side3 => repeat (first | exact (Kd.C_below HR0_1.out HB.out) | (with_reducible refine Kd.C_alloc ?_ _) | (with_reducible refine Kd.C_drewN ?_ _) | (with_reducible refine Kd.C_drew ?_))); (case side4 => exact HC0_1.out); rintro e w94 ⟨rfl, hb⟩; refine ⟨_, rfl, ?_⟩; have n0_ := Aside0.mk (Kd.R_below (by (with_reducible repeat (first | apply Kd.R_alloc | apply Kd.R_drewN | apply Kd.R_drew)); exact HO_180000.out) hb); have n1_ := Aside0.mk (Kd.R_below (by (with_reducible repeat (first | apply Kd.R_alloc | apply Kd.R_drewN | apply Kd.R_drew)); exact HO_180001.out) hb); have n2_ := Aside0.mk (Kd.R_below (by (with_reducible repeat (first | apply Kd.R_alloc | apply Kd.R_drewN | apply Kd.R_drew)); exact HO_189000.out) hb); have n3_ := Aside0.mk (Kd.R_below (by (with_reducible repeat (first | apply Kd.R_alloc | apply Kd.R_drewN | apply Kd.R_drew)); exact HO_189001.out) hb); have n4_ := Aside0.mk (blk_below (g := gb169) (o := .cells #[.slice A0_0 l0_0.length c0_0, .slice A0_1 l0_1.length c0_1, .bool a0_2] 25 (0, 0)) (by (with_reducible repeat (first | refine blk_drewN ?_ _ | refine blk_drew ?_ | refine blk_alloc ?_ _)); exact BK169.out) hb); have n5_ := Aside0.mk (blk_below (g := gb179) (o := .cells #[.slice Ao23 t171.length co23, .slice Ao26 t174.length co26, .bool t177] 25 (0, 0)) (by (with_reducible repeat (first | refine blk_drewN ?_ _ | refine blk_drew ?_ | refine blk_alloc ?_ _)); exact BK179.out) hb); have n6_ := Aside0.mk (blk_below (g := gb188) (o := .cells #[.slice Ao29 t180.length co29, .slice Ao33 t183.length co33, .bool t186] 25 (0, 0)) (by (with_reducible repeat (first | refine blk_drewN ?_ _ | refine blk_drew ?_ | refine blk_alloc ?_ _)); exact BK188.out) hb); have n7_ := Aside0.mk (below_step (by repeat (first | (with_reducible first | exact HB.out | apply below_alloc | apply pw_below_drewN | apply below_drew1 | refine below_set ?_ GE169.out | refine below_set ?_ GE179.out | refine below_set ?_ GE188.out) | exact HB.out)) hb); clear HO_180000; clear HO_180001; clear HO_189000; clear HO_189001; clear BK169; clear BK179; clear BK188; clear HB; have HO_180000 := n0_; have HO_180001 := n1_; have HO_189000 := n2_; have HO_189001 := n3_; have BK169 := n4_; have BK179 := n5_; have BK188 := n6_; have HB := n7_; clear n0_ n1_ n2_ n3_ n4_ n5_ n6_ n7_; (try clear hb); (try clear hb2); (try clear hk); (try clear hi); have hcz95_0 : w94.cell? ⟨gb169, 0, none⟩ = some (.slice A0_0 l0_0.length c0_0) := (blk_cell BK169.out 0).trans rfl; have hcz95_1 : w94.cell? ⟨gb169, 1, none⟩ = some (.slice A0_1 l0_1.length c0_1) := (blk_cell BK169.out 1).trans rfl; have hcz95_2 : w94.cell? ⟨gb169, 2, none⟩ = some (.bool a0_2) := (blk_cell BK169.out 2).trans rfl; have hfz95_0 := blk_frozen BK169.out 0; have hfz95_1 := blk_frozen BK169.out 1; have hfz95_2 := blk_frozen BK169.out 2) | ((with_reducible refine gate_callee (f := 22) rfl ?_); refine goesL_ (some 90) rfl rfl Try.func22 (by kernel_rfl) rfl #[.agg #[.slice A0_0 l0_0.length c0_0, .slice A0_1 l0_1.length c0_1, .bool a0_2], .int .i64 a1, .int .i64 a2] rfl (by (try simp only [List.map_toArray, List.map_cons, List.map_nil]); first | done | rfl | (simp only [List.length_drop, List.length_take]; rfl)) ?_; (with_reducible refine (disk_Stretch.calls _ _ l0_0 _ _ l0_1 a0_2 a1 a2 t196 t197 _ ?side1 ?side2 ?side3 ?side4 A49.out).mono ?_); (case side1 => repeat (first | exact (Kd.C_below HR0_0.out HB.out) | (with_reducible refine Kd.C_alloc ?_ _) | (with_reducible refine Kd.C_drewN ?_ _) | (with_reducible refine Kd.C_drew ?_))); (case side2 => exact HC0_0.out); (case side3 => repeat (first | exact (Kd.C_below HR0_1.out HB.out) | (with_reducible refine Kd.C_alloc ?_ _) | (with_reducible refine Kd.C_drewN ?_ _) | (with_reducible refine Kd.C_drew ?_))); (case side4 => exact HC0_1.out); rintro e w96 ⟨rfl, hb⟩; refine ⟨_, rfl, ?_⟩; have n0_ := Aside0.mk (Kd.R_below (by (with_reducible repeat (first | apply Kd.R_alloc | apply Kd.R_drewN | apply Kd.R_drew)); exact HO_180000.out) hb); have n1_ := Aside0.mk (Kd.R_below (by (with_reducible repeat (first | apply Kd.R_alloc | apply Kd.R_drewN | apply Kd.R_drew)); exact HO_180001.out) hb); have n2_ := Aside0.mk (Kd.R_below (by (with_reducible repeat (first | apply Kd.R_alloc | apply Kd.R_drewN | apply Kd.R_drew)); exact HO_189000.out) hb); have n3_ := Aside0.mk (Kd.R_below (by (with_reducible repeat (first | apply Kd.R_alloc | apply Kd.R_drewN | apply Kd.R_drew)); exact HO_189001.out) hb); have n4_ := Aside0.mk (blk_below (g := gb169) (o := .cells #[.slice A0_0 l0_0.length c0_0, .slice A0_1 l0_1.length c0_1, .bool a0_2] 25 (0, 0)) (by (with_reducible repeat (first | refine blk_drewN ?_ _ | refine blk_drew ?_ | refine blk_alloc ?_ _)); exact BK169.out) hb); have n5_ := Aside0.mk (blk_below (g := gb179) (o := .cells #[.slice Ao23 t171.length co23, .slice Ao26 t174.length co26, .bool t177] 25 (0, 0)) (by (with_reducible repeat (first | refine blk_drewN ?_ _ | refine blk_drew ?_ | refine blk_alloc ?_ _)); exact BK179.out) hb); have n6_ := Aside0.mk (blk_below (g := gb188) (o := .cells #[.slice Ao29 t180.length co29, .slice Ao33 t183.length co33, .bool t186] 25 (0, 0)) (by (with_reducible repeat (first | refine blk_drewN ?_ _ | refine blk_drew ?_ | refine blk_alloc ?_ _)); exact BK188.out) hb); have n7_ := Aside0.mk (below_step (by repeat (first | (with_reducible first | exact HB.out | apply below_alloc | apply pw_below_drewN | apply below_drew1 | refine below_set ?_ GE169.out | refine below_set ?_ GE179.out | refine below_set ?_ GE188.out) | exact HB.out)) hb); clear HO_180000; clear HO_180001; clear HO_189000; clear HO_189001; clear BK169; clear BK179; clear BK188; clear HB; have HO_180000 := n0_; have HO_180001 := n1_; have HO_189000 := n2_; have HO_189001 := n3_; have BK169 := n4_; have BK179 := n5_; have BK188 := n6_; have HB := n7_; clear n0_ n1_ n2_ n3_ n4_ n5_ n6_ n7_; (try clear hb); (try clear hb2); (try clear hk); (try clear hi); have hcz97_0 : w96.cell? ⟨gb169, 0, none⟩ = some (.slice A0_0 l0_0.length c0_0) := (blk_cell BK169.out 0).trans rfl; have hcz97_1 : w96.cell? ⟨gb169, 1, none⟩ = some (.slice A0_1 l0_1.length c0_1) := (blk_cell BK169.out 1).trans rfl; have hcz97_2 : w96.cell? ⟨gb169, 2, none⟩ = some (.bool a0_2) := (blk_cell BK169.out 2).trans rfl; have hfz97_0 := blk_frozen BK169.out 0; have hfz97_1 := blk_frozen BK169.out 1; have hfz97_2 := blk_frozen BK169.out 2) | ((with_reducible refine gate_callee (f := 27) rfl ?_); refine goesL_ (some 97) rfl rfl Try.func27 (by kernel_rfl) rfl #[.agg #[.slice A0_0 l0_0.length c0_0, .slice A0_1 l0_1.length c0_1, .bool a0_2], .int .i64 a1, .int .i64 a2] rfl (by (try simp only [List.map_toArray, List.map_cons, List.map_nil]); first | done | rfl | (simp only [List.length_drop, List.length_take]; rfl)) ?_; (with_reducible refine (copyholdref04_Stretch.calls kj19 _ _ l0_0 _ _ l0_1 a0_2 a1 a2 t198 t199 _ ?side1 ?side2 ?side3 ?side4 A50.out).mono ?_); (case side1 => repeat (first | exact (Kd.C_below HR0_0.out HB.out) | (with_reducible refine Kd.C_alloc ?_ _) | (with_reducible refine Kd.C_drewN ?_ _) | (with_reducible refine Kd.C_drew ?_))); (case side2 => exact HC0_0.out); (case side3 => repeat (first | exact (Kd.C_below HR0_1.out HB.out) | (with_reducible refine Kd.C_alloc ?_ _) | (with_reducible refine Kd.C_drewN ?_ _) | (with_reducible refine Kd.C_drew ?_))); (case side4 => exact HC0_1.out); rintro e w98 ⟨rfl, hb⟩; refine ⟨_, rfl, ?_⟩; have n0_ := Aside0.mk (Kd.R_below (by (with_reducible repeat (first | apply Kd.R_alloc | apply Kd.R_drewN | apply Kd.R_drew)); exact HO_180000.out) hb); have n1_ := Aside0.mk (Kd.R_below (by (with_reducible repeat (first | apply Kd.R_alloc | apply Kd.R_drewN | apply Kd.R_drew)); exact HO_180001.out) hb); have n2_ := Aside0.mk (Kd.R_below (by (with_reducible repeat (first | apply Kd.R_alloc | apply Kd.R_drewN | apply Kd.R_drew)); exact HO_189000.out) hb); have n3_ := Aside0.mk (Kd.R_below (by (with_reducible repeat (first | apply Kd.R_alloc | apply Kd.R_drewN | apply Kd.R_drew)); exact HO_189001.out) hb); have n4_ := Aside0.mk (blk_below (g := gb169) (o := .cells #[.slice A0_0 l0_0.length c0_0, .slice A0_1 l0_1.length c0_1, .bool a0_2] 25 (0, 0)) (by (with_reducible repeat (first | refine blk_drewN ?_ _ | refine blk_drew ?_ | refine blk_alloc ?_ _)); exact BK169.out) hb); have n5_ := Aside0.mk (blk_below (g := gb179) (o := .cells #[.slice Ao23 t171.length co23, .slice Ao26 t174.length co26, .bool t177] 25 (0, 0)) (by (with_reducible repeat (first | refine blk_drewN ?_ _ | refine blk_drew ?_ | refine blk_alloc ?_ _)); exact BK179.out) hb); have n6_ := Aside0.mk (blk_below (g := gb188) (o := .cells #[.slice Ao29 t180.length co29, .slice Ao33 t183.length co33, .bool t186] 25 (0, 0)) (by (with_reducible repeat (first | refine blk_drewN ?_ _ | refine blk_drew ?_ | refine blk_alloc ?_ _)); exact BK188.out) hb); have n7_ := Aside0.mk (below_step (by repeat (first | (with_reducible first | exact HB.out | apply below_alloc | apply pw_below_drewN | apply below_drew1 | refine below_set ?_ GE169.out | refine below_set ?_ GE179.out | refine below_set ?_ GE188.out) | exact HB.out)) hb); clear HO_180000; clear HO_180001; clear HO_189000; clear HO_189001; clear BK169; clear BK179; clear BK188; clear HB; have HO_180000 := n0_; have HO_180001 := n1_; have HO_189000 := n2_; have HO_189001 := n3_; have BK169 := n4_; have BK179 := n5_; have BK188 := n6_; have HB := n7_; clear n0_ n1_ n2_ n3_ n4_ n5_ n6_ n7_; (try clear hb); (try clear hb2); (try clear hk); (try clear hi)))
                        have n0_ := Aside0.mk (Kd.R_drew HO_180000.out)
                        have n1_ := Aside0.mk (Kd.R_drew HO_180001.out)
                        have n2_ := Aside0.mk (Kd.R_drew HO_189000.out)
                        have n3_ := Aside0.mk (Kd.R_drew HO_189001.out)
                        have n4_ := Aside0.mk (blk_drew BK169.out)
                        have n5_ := Aside0.mk (blk_drew BK179.out)
                        have n6_ := Aside0.mk (blk_drew BK188.out)
                        have n7_ := Aside0.mk (below_drew1 HB.out)
                        clear HO_180000
                        clear HO_180001
                        clear HO_189000
                        clear HO_189001
                        clear BK169
                        clear BK179
                        clear BK188
                        clear HB
                        have HO_180000 := n0_
                        have HO_180001 := n1_
                        have HO_189000 := n2_
                        have HO_189001 := n3_
                        have BK169 := n4_
                        have BK179 := n5_
                        have BK188 := n6_
                        have HB := n7_
                        clear n0_ n1_ n2_ n3_ n4_ n5_ n6_ n7_
                        refine start_ (n := 6) (S := fun w' => w'.cell? ⟨gb169, 0, none⟩ = some (.slice A0_0 l0_0.length c0_0) ∧ w'.cell? ⟨gb169, 1, none⟩ = some (.slice A0_1 l0_1.length c0_1) ∧ w'.cell? ⟨gb169, 2, none⟩ = some (.bool a0_2)) (ds := []) #[false, false, false, false, false, false] (by kernel_rfl) rfl rfl ⟨(blk_cell BK169.out 0).trans rfl, (blk_cell BK169.out 1).trans rfl, (blk_cell BK169.out 2).trans rfl⟩ (fun hHeld => ?_)
                        generalize w98.drew = w99 at HO_180000 HO_180001 HO_189000 HO_189001 BK169 BK179 BK188 HB hHeld ⊢
                        refine take_ (i := 0) (N := some 100) (v := ?_) (a' := ?_) #[true, false, false, false, false, false] rfl rfl (by kernel_rfl) (fun _ _ _ h => h) (Or.inl ⟨by rfl, ?_⟩) hHeld ?_ ?_
                        rotate_left
                        · rintro w' ⟨s0, s1, s2⟩
                          go_simp
                          with_reducible rfl
                        rotate_left
                        · simp only [Act.put, List.setIfInBounds_toArray, List.set_cons_zero, List.set_cons_succ, i64_w, i32_w]
                          rfl
                        refine take_ (i := 2) (N := some 102) (v := ?_) (a' := ?_) #[true, false, true, false, false, false] rfl rfl (by kernel_rfl) (fun _ _ _ h => h) (Or.inl ⟨by rfl, ?_⟩) hHeld ?_ ?_
                        rotate_left
                        · rintro w' ⟨s0, s1, s2⟩
                          go_simp
                          with_reducible rfl
                        rotate_left
                        · simp only [Act.put, List.setIfInBounds_toArray, List.set_cons_zero, List.set_cons_succ, i64_w, i32_w]
                          rfl
                        refine one_ (i := 1) (N := some 101) #[true, true, true, false, false, false] rfl rfl (by kernel_rfl) (by decide) (fun K hK => ?_)
                        refine goes_ Try.func19 (by kernel_rfl) rfl #[.agg #[.slice A0_0 l0_0.length c0_0, .slice A0_1 l0_1.length c0_1, .bool a0_2]] (by rfl) rfl rfl (by (try simp only [List.map_toArray, List.map_cons, List.map_nil]); first | done | rfl | (simp only [List.length_drop, List.length_take]; rfl)) ?_
                        with_reducible refine (disk_Image.calls _ _ l0_0 _ _ l0_1 a0_2 t200 _ ?side1 ?side2 ?side3 ?side4 A51.out).mono ?_
                        (case side1 => repeat (first | exact (Kd.C_below HR0_0.out HB.out) | (with_reducible refine Kd.C_alloc ?_ _) | (with_reducible refine Kd.C_drewN ?_ _) | (with_reducible refine Kd.C_drew ?_)))
                        (case side2 => exact HC0_0.out)
                        (case side3 => repeat (first | exact (Kd.C_below HR0_1.out HB.out) | (with_reducible refine Kd.C_alloc ?_ _) | (with_reducible refine Kd.C_drewN ?_ _) | (with_reducible refine Kd.C_drew ?_)))
                        (case side4 => exact HC0_1.out)
                        rintro e w100 ⟨v201, rfl, ho0, hb⟩
                        refine ⟨_, rfl, ?_⟩
                        have n0_ := Aside0.mk (Kd.R_elder' (by (with_reducible repeat (first | apply Kd.R_alloc | apply Kd.R_drewN | apply Kd.R_drew)); exact HO_180000.out) (Kd.R_base ho0) hb)
                        have n1_ := Aside0.mk (Kd.R_below (by (with_reducible repeat (first | apply Kd.R_alloc | apply Kd.R_drewN | apply Kd.R_drew)); exact HO_180001.out) hb)
                        have n2_ := Aside0.mk (Kd.R_elder' (by (with_reducible repeat (first | apply Kd.R_alloc | apply Kd.R_drewN | apply Kd.R_drew)); exact HO_189000.out) (Kd.R_base ho0) hb)
                        have n3_ := Aside0.mk (Kd.R_below (by (with_reducible repeat (first | apply Kd.R_alloc | apply Kd.R_drewN | apply Kd.R_drew)); exact HO_189001.out) hb)
                        have n4_ := Aside0.mk (Kd.R_lower (Kd.R_new' (Kd.R_new' ho0 (Kd.R_lt (by (with_reducible repeat (first | apply Kd.R_alloc | apply Kd.R_drewN | apply Kd.R_drew)); exact HO_180000.out))) (Kd.R_lt (by (with_reducible repeat (first | apply Kd.R_alloc | apply Kd.R_drewN | apply Kd.R_drew)); exact HO_189000.out))) (below_size (by repeat (first | (with_reducible first | exact HB.out | apply below_alloc | apply pw_below_drewN | apply below_drew1 | refine below_set ?_ GE169.out | refine below_set ?_ GE179.out | refine below_set ?_ GE188.out) | exact HB.out))))
                        have n5_ := Aside0.mk (blk_below (g := gb169) (o := .cells #[.slice A0_0 l0_0.length c0_0, .slice A0_1 l0_1.length c0_1, .bool a0_2] 25 (0, 0)) (by (with_reducible repeat (first | refine blk_drewN ?_ _ | refine blk_drew ?_ | refine blk_alloc ?_ _)); exact BK169.out) hb)
                        have n6_ := Aside0.mk (blk_below (g := gb179) (o := .cells #[.slice Ao23 t171.length co23, .slice Ao26 t174.length co26, .bool t177] 25 (0, 0)) (by (with_reducible repeat (first | refine blk_drewN ?_ _ | refine blk_drew ?_ | refine blk_alloc ?_ _)); exact BK179.out) hb)
                        have n7_ := Aside0.mk (blk_below (g := gb188) (o := .cells #[.slice Ao29 t180.length co29, .slice Ao33 t183.length co33, .bool t186] 25 (0, 0)) (by (with_reducible repeat (first | refine blk_drewN ?_ _ | refine blk_drew ?_ | refine blk_alloc ?_ _)); exact BK188.out) hb)
                        have n8_ := Aside0.mk (below_step (by repeat (first | (with_reducible first | exact HB.out | apply below_alloc | apply pw_below_drewN | apply below_drew1 | refine below_set ?_ GE169.out | refine below_set ?_ GE179.out | refine below_set ?_ GE188.out) | exact HB.out)) hb)
                        clear HO_180000
                        clear HO_180001
                        clear HO_189000
                        clear HO_189001
                        clear BK169
                        clear BK179
                        clear BK188
                        clear HB
                        have HO_180000 := n0_
                        have HO_180001 := n1_
                        have HO_189000 := n2_
                        have HO_189001 := n3_
                        have HO202 := n4_
                        have BK169 := n5_
                        have BK179 := n6_
                        have BK188 := n7_
                        have HB := n8_
                        clear n0_ n1_ n2_ n3_ n4_ n5_ n6_ n7_ n8_
                        (try clear hb)
                        (try clear hb2)
                        (try clear hk)
                        (try clear hi)
                        (try clear ho0)
                        refine hK.out _ _ ⟨(blk_cell BK169.out 0).trans rfl, (blk_cell BK169.out 1).trans rfl, (blk_cell BK169.out 2).trans rfl⟩ (fun hHeld => ?_)
                        clear hK K
                        refine norm_ (a' := ?_) ?_ ?_
                        rotate_left
                        · show Act.put _ (some 101) _ = _
                          simp only [Act.put, List.setIfInBounds_toArray, List.set_cons_zero, List.set_cons_succ, i64_w, i32_w]
                          rfl
                        refine one_ (i := 3) (N := some 103) #[true, true, true, true, false, false] rfl rfl (by kernel_rfl) (by decide) (fun K hK => ?_)
                        refine goes_ Try.func28 (by kernel_rfl) rfl #[.agg #[.slice A0_0 l0_0.length c0_0, .slice A0_1 l0_1.length c0_1, .bool a0_2]] (by rfl) rfl rfl (by (try simp only [List.map_toArray, List.map_cons, List.map_nil]); first | done | rfl | (simp only [List.length_drop, List.length_take]; rfl)) ?_
                        with_reducible refine (copyholdref04_Image.calls kj19 _ _ l0_0 _ _ l0_1 a0_2 t203 _ ?side1 ?side2 ?side3 ?side4 A52.out).mono ?_
                        (case side1 => repeat (first | exact (Kd.C_below HR0_0.out HB.out) | (with_reducible refine Kd.C_alloc ?_ _) | (with_reducible refine Kd.C_drewN ?_ _) | (with_reducible refine Kd.C_drew ?_)))
                        (case side2 => exact HC0_0.out)
                        (case side3 => repeat (first | exact (Kd.C_below HR0_1.out HB.out) | (with_reducible refine Kd.C_alloc ?_ _) | (with_reducible refine Kd.C_drewN ?_ _) | (with_reducible refine Kd.C_drew ?_)))
                        (case side4 => exact HC0_1.out)
                        rintro e w101 ⟨v204, rfl, ho0, hb⟩
                        refine ⟨_, rfl, ?_⟩
                        have n0_ := Aside0.mk (Kd.R_elder' (by (with_reducible repeat (first | apply Kd.R_alloc | apply Kd.R_drewN | apply Kd.R_drew)); exact HO_180000.out) (Kd.R_base ho0) hb)
                        have n1_ := Aside0.mk (Kd.R_below (by (with_reducible repeat (first | apply Kd.R_alloc | apply Kd.R_drewN | apply Kd.R_drew)); exact HO_180001.out) hb)
                        have n2_ := Aside0.mk (Kd.R_elder' (by (with_reducible repeat (first | apply Kd.R_alloc | apply Kd.R_drewN | apply Kd.R_drew)); exact HO_189000.out) (Kd.R_base ho0) hb)
                        have n3_ := Aside0.mk (Kd.R_below (by (with_reducible repeat (first | apply Kd.R_alloc | apply Kd.R_drewN | apply Kd.R_drew)); exact HO_189001.out) hb)
                        have n4_ := Aside0.mk (Kd.R_elder' (by (with_reducible repeat (first | apply Kd.R_alloc | apply Kd.R_drewN | apply Kd.R_drew)); exact HO202.out) (Kd.R_base ho0) hb)
                        have n5_ := Aside0.mk (Kd.R_lower (Kd.R_new' (Kd.R_new' (Kd.R_new' ho0 (Kd.R_lt (by (with_reducible repeat (first | apply Kd.R_alloc | apply Kd.R_drewN | apply Kd.R_drew)); exact HO_180000.out))) (Kd.R_lt (by (with_reducible repeat (first | apply Kd.R_alloc | apply Kd.R_drewN | apply Kd.R_drew)); exact HO_189000.out))) (Kd.R_lt (by (with_reducible repeat (first | apply Kd.R_alloc | apply Kd.R_drewN | apply Kd.R_drew)); exact HO202.out))) (below_size (by repeat (first | (with_reducible first | exact HB.out | apply below_alloc | apply pw_below_drewN | apply below_drew1 | refine below_set ?_ GE169.out | refine below_set ?_ GE179.out | refine below_set ?_ GE188.out) | exact HB.out))))
                        have n6_ := Aside0.mk (blk_below (g := gb169) (o := .cells #[.slice A0_0 l0_0.length c0_0, .slice A0_1 l0_1.length c0_1, .bool a0_2] 25 (0, 0)) (by (with_reducible repeat (first | refine blk_drewN ?_ _ | refine blk_drew ?_ | refine blk_alloc ?_ _)); exact BK169.out) hb)
                        have n7_ := Aside0.mk (blk_below (g := gb179) (o := .cells #[.slice Ao23 t171.length co23, .slice Ao26 t174.length co26, .bool t177] 25 (0, 0)) (by (with_reducible repeat (first | refine blk_drewN ?_ _ | refine blk_drew ?_ | refine blk_alloc ?_ _)); exact BK179.out) hb)
                        have n8_ := Aside0.mk (blk_below (g := gb188) (o := .cells #[.slice Ao29 t180.length co29, .slice Ao33 t183.length co33, .bool t186] 25 (0, 0)) (by (with_reducible repeat (first | refine blk_drewN ?_ _ | refine blk_drew ?_ | refine blk_alloc ?_ _)); exact BK188.out) hb)
                        have n9_ := Aside0.mk (below_step (by repeat (first | (with_reducible first | exact HB.out | apply below_alloc | apply pw_below_drewN | apply below_drew1 | refine below_set ?_ GE169.out | refine below_set ?_ GE179.out | refine below_set ?_ GE188.out) | exact HB.out)) hb)
                        clear HO_180000
                        clear HO_180001
                        clear HO_189000
                        clear HO_189001
                        clear HO202
                        clear BK169
                        clear BK179
                        clear BK188
                        clear HB
                        have HO_180000 := n0_
                        have HO_180001 := n1_
                        have HO_189000 := n2_
                        have HO_189001 := n3_
                        have HO202 := n4_
                        have HO205 := n5_
                        have BK169 := n6_
                        have BK179 := n7_
                        have BK188 := n8_
                        have HB := n9_
                        clear n0_ n1_ n2_ n3_ n4_ n5_ n6_ n7_ n8_ n9_
                        (try clear hb)
                        (try clear hb2)
                        (try clear hk)
                        (try clear hi)
                        (try clear ho0)
                        obtain ⟨Ao102, co102, eo102⟩ := Kd.R_slice HO202.out
                        (first | subst eo102 | (injection eo102 with f1_ f2_ f3_; have f4_ := f1_.symm; have f5_ := f3_.symm; clear f1_ f2_ f3_; subst f4_; subst f5_))
                        obtain ⟨Ao103, co103, eo103⟩ := Kd.R_slice HO205.out
                        (first | subst eo103 | (injection eo103 with f1_ f2_ f3_; have f4_ := f1_.symm; have f5_ := f3_.symm; clear f1_ f2_ f3_; subst f4_; subst f5_))
                        refine hK.out _ _ ⟨(blk_cell BK169.out 0).trans rfl, (blk_cell BK169.out 1).trans rfl, (blk_cell BK169.out 2).trans rfl⟩ (fun hHeld => ?_)
                        clear hK K
                        refine norm_ (a' := ?_) ?_ ?_
                        rotate_left
                        · show Act.put _ (some 103) _ = _
                          simp only [Act.put, List.setIfInBounds_toArray, List.set_cons_zero, List.set_cons_succ, i64_w, i32_w]
                          rfl
                        refine one_ (i := 4) (N := some 104) #[true, true, true, true, true, false] rfl rfl (by kernel_rfl) (by decide) (fun K hK => ?_)
                        refine goes_ Try.func18 (by kernel_rfl) rfl #[.slice Ao102 t200.length co102, .slice Ao103 t203.length co103] (by rfl) rfl rfl (by (try simp only [List.map_toArray, List.map_cons, List.map_nil]); first | done | rfl | (simp only [List.length_drop, List.length_take]; rfl)) ?_
                        with_reducible refine (copyholdref01_Strings.calls kj19 _ _ t200 _ _ t203 t206 _ ?side1 ?side2 ?side3 ?side4 A53.out).mono ?_
                        (case side1 => repeat (first | exact (Kd.R_reads' HO202.out).2.2 | (with_reducible refine Kd.C_alloc ?_ _) | (with_reducible refine Kd.C_drewN ?_ _) | (with_reducible refine Kd.C_drew ?_)))
                        (case side2 => exact (Kd.R_reads' HO202.out).2.1)
                        (case side3 => repeat (first | exact (Kd.R_reads' HO205.out).2.2 | (with_reducible refine Kd.C_alloc ?_ _) | (with_reducible refine Kd.C_drewN ?_ _) | (with_reducible refine Kd.C_drew ?_)))
                        (case side4 => exact (Kd.R_reads' HO205.out).2.1)
                        rintro e w' ⟨rfl, ⟨nd, rfl⟩⟩
                        refine ⟨_, rfl, ?_⟩
                        refine hK.out _ _ ⟨(blk_cell BK169.out 0).trans rfl, (blk_cell BK169.out 1).trans rfl, (blk_cell BK169.out 2).trans rfl⟩ (fun hHeld => ?_)
                        clear hK K
                        refine norm_ (a' := ?_) ?_ ?_
                        rotate_left
                        · show Act.put _ (some 104) _ = _
                          simp only [Act.put, List.setIfInBounds_toArray, List.set_cons_zero, List.set_cons_succ, i64_w, i32_w]
                          rfl
                        refine pure_ (i := 5) (N := some 22) (v := ?_) (a' := ?_) #[true, true, true, true, true, true] rfl rfl (by kernel_rfl) (fun _ _ _ h => h) (Or.inl ⟨by rfl, ?_⟩) ?_ ?_
                        rotate_left
                        · intro w'
                          go_simp
                          with_reducible rfl
                        rotate_left
                        · simp only [Act.put, List.setIfInBounds_toArray, List.set_cons_zero, List.set_cons_succ, i64_w, i32_w]
                          rfl
                        refine done_ (by kernel_rfl) ?_
                        try go_wp2
                        go_ret
                        exact ⟨by first | rfl | (simp [errW_none, errW_some] <;> rfl) | (simp [*, errW_none, errW_some] <;> rfl), by repeat (first | (with_reducible first | exact HB.out | apply below_alloc | apply pw_below_drewN | apply below_drew1 | refine below_set ?_ GE169.out | refine below_set ?_ GE179.out | refine below_set ?_ GE188.out) | exact HB.out)⟩
                    · rw [if_neg c56] at H
                      have c56b0 : (t193 == t195) = false := beq_eq_false_iff_ne.mpr c56
                      have c56b1 : (t193 != t195) = true := bne_iff_ne.mpr c56
                      obtain rfl := Option.some.inj H
                      have hnb104 := NB169_179.out
                      have hnc104 := NB179_169.out
                      have hnb105 := NB169_188.out
                      have hnc105 := NB188_169.out
                      have hcz106_0 : wc.cell? ⟨gb169, 0, none⟩ = some (.slice A0_0 l0_0.length c0_0) := (blk_cell BK169.out 0).trans rfl
                      have hcz106_1 : wc.cell? ⟨gb169, 1, none⟩ = some (.slice A0_1 l0_1.length c0_1) := (blk_cell BK169.out 1).trans rfl
                      have hcz106_2 : wc.cell? ⟨gb169, 2, none⟩ = some (.bool a0_2) := (blk_cell BK169.out 2).trans rfl
                      have hfz106_0 := blk_frozen BK169.out 0
                      have hfz106_1 := blk_frozen BK169.out 1
                      have hfz106_2 := blk_frozen BK169.out 2
                      try go_wp2_with (first | ((with_reducible refine gate_callee (f := 21) rfl ?_); refine goesL_ (some 77) rfl rfl Try.func21 (by kernel_rfl) rfl #[.agg #[.slice A0_0 l0_0.length c0_0, .slice A0_1 l0_1.length c0_1, .bool a0_2], .int .i64 a1] rfl (by (try simp only [List.map_toArray, List.map_cons, List.map_nil]); first | done | rfl | (simp only [List.length_drop, List.length_take]; rfl)) ?_; (with_reducible refine (disk_Read.calls _ _ l0_0 _ _ l0_1 a0_2 a1 t192 t193 _ ?side1 ?side2 ?side3 ?side4 A47.out).mono ?_); (case side1 => repeat (first | exact (Kd.C_below HR0_0.out HB.out) | (with_reducible refine Kd.C_alloc ?_ _) | (with_reducible refine Kd.C_drewN ?_ _) | (with_reducible refine Kd.C_drew ?_))); (case side2 => exact HC0_0.out); (case side3 => repeat (first | exact (Kd.C_below HR0_1.out HB.out) | (with_reducible refine Kd.C_alloc ?_ _) | (with_reducible refine Kd.C_drewN ?_ _) | (with_reducible refine Kd.C_drew ?_))); (case side4 => exact HC0_1.out); rintro e w107 ⟨rfl, hb⟩; refine ⟨_, rfl, ?_⟩; have n0_ := Aside0.mk (Kd.R_below (by (with_reducible repeat (first | apply Kd.R_alloc | apply Kd.R_drewN | apply Kd.R_drew)); exact HO_180000.out) hb); have n1_ := Aside0.mk (Kd.R_below (by (with_reducible repeat (first | apply Kd.R_alloc | apply Kd.R_drewN | apply Kd.R_drew)); exact HO_180001.out) hb); have n2_ := Aside0.mk (Kd.R_below (by (with_reducible repeat (first | apply Kd.R_alloc | apply Kd.R_drewN | apply Kd.R_drew)); exact HO_189000.out) hb); have n3_ := Aside0.mk (Kd.R_below (by (with_reducible repeat (first | apply Kd.R_alloc | apply Kd.R_drewN | apply Kd.R_drew)); exact HO_189001.out) hb); have n4_ := Aside0.mk (blk_below (g := gb169) (o := .cells #[.slice A0_0 l0_0.length c0_0, .slice A0_1 l0_1.length c0_1, .bool a0_2] 25 (0, 0)) (by (with_reducible repeat (first | refine blk_drewN ?_ _ | refine blk_drew ?_ | refine blk_alloc ?_ _)); exact BK169.out) hb); have n5_ := Aside0.mk (blk_below (g := gb179) (o := .cells #[.slice Ao23 t171.length co23, .slice Ao26 t174.length co26, .bool t177] 25 (0, 0)) (by (with_reducible repeat (first | refine blk_drewN ?_ _ | refine blk_drew ?_ | refine blk_alloc ?_ _)); exact BK179.out) hb); have n6_ := Aside0.mk (blk_below (g := gb188) (o := .cells #[.slice Ao29 t180.length co29, .slice Ao33 t183.length co33, .bool t186] 25 (0, 0)) (by (with_reducible repeat (first | refine blk_drewN ?_ _ | refine blk_drew ?_ | refine blk_alloc ?_ _)); exact BK188.out) hb); have n7_ := Aside0.mk (below_step (by repeat (first | (with_reducible first | exact HB.out | apply below_alloc | apply pw_below_drewN | apply below_drew1 | refine below_set ?_ GE169.out | refine below_set ?_ GE179.out | refine below_set ?_ GE188.out) | exact HB.out)) hb); clear HO_180000; clear HO_180001; clear HO_189000; clear HO_189001; clear BK169; clear BK179; clear BK188; clear HB; have HO_180000 := n0_; have HO_180001 := n1_; have HO_189000 := n2_; have HO_189001 := n3_; have BK169 := n4_; have BK179 := n5_; have BK188 := n6_; have HB := n7_; clear n0_ n1_ n2_ n3_ n4_ n5_ n6_ n7_; (try clear hb); (try clear hb2); (try clear hk); (try clear hi); have hcz108_0 : w107.cell? ⟨gb169, 0, none⟩ = some (.slice A0_0 l0_0.length c0_0) := (blk_cell BK169.out 0).trans rfl; have hcz108_1 : w107.cell? ⟨gb169, 1, none⟩ = some (.slice A0_1 l0_1.length c0_1) := (blk_cell BK169.out 1).trans rfl; have hcz108_2 : w107.cell? ⟨gb169, 2, none⟩ = some (.bool a0_2) := (blk_cell BK169.out 2).trans rfl; have hfz108_0 := blk_frozen BK169.out 0; have hfz108_1 := blk_frozen BK169.out 1; have hfz108_2 := blk_frozen BK169.out 2) | ((with_reducible refine gate_callee (f := 26) rfl ?_); refine goesL_ (some 83) rfl rfl Try.func26 (by kernel_rfl) rfl #[.agg #[.slice A0_0 l0_0.length c0_0, .slice A0_1 l0_1.length c0_1, .bool a0_2], .int .i64 a1] rfl (by (try simp only [List.map_toArray, List.map_cons, List.map_nil]); first | done | rfl | (simp only [List.length_drop, List.length_take]; rfl)) ?_; (with_reducible refine (copyholdref04_Read.calls kj19 _ _ l0_0 _ _ l0_1 a0_2 a1 t194 t195 _ ?side1 ?side2 ?side3 ?side4 A48.out).mono ?_); (case side1 => repeat (first | exact (Kd.C_below HR0_0.out HB.out) | (with_reducible refine Kd.C_alloc ?_ _) | (with_reducible refine Kd.C_drewN ?_ _) | (with_reducible refine Kd.C_drew ?_))); (case side2 => exact HC0_0.out); (case side3 => repeat (first | exact (Kd.C_below HR0_1.out HB.out) | (with_reducible refine Kd.C_alloc ?_ _) | (with_reducible refine Kd.C_drewN ?_ _) | (with_reducible refine Kd.C_drew ?_))); (case side4 => exact HC0_1.out); rintro e w109 ⟨rfl, hb⟩; refine ⟨_, rfl, ?_⟩; have n0_ := Aside0.mk (Kd.R_below (by (with_reducible repeat (first | apply Kd.R_alloc | apply Kd.R_drewN | apply Kd.R_drew)); exact HO_180000.out) hb); have n1_ := Aside0.mk (Kd.R_below (by (with_reducible repeat (first | apply Kd.R_alloc | apply Kd.R_drewN | apply Kd.R_drew)); exact HO_180001.out) hb); have n2_ := Aside0.mk (Kd.R_below (by (with_reducible repeat (first | apply Kd.R_alloc | apply Kd.R_drewN | apply Kd.R_drew)); exact HO_189000.out) hb); have n3_ := Aside0.mk (Kd.R_below (by (with_reducible repeat (first | apply Kd.R_alloc | apply Kd.R_drewN | apply Kd.R_drew)); exact HO_189001.out) hb); have n4_ := Aside0.mk (blk_below (g := gb169) (o := .cells #[.slice A0_0 l0_0.length c0_0, .slice A0_1 l0_1.length c0_1, .bool a0_2] 25 (0, 0)) (by (with_reducible repeat (first | refine blk_drewN ?_ _ | refine blk_drew ?_ | refine blk_alloc ?_ _)); exact BK169.out) hb); have n5_ := Aside0.mk (blk_below (g := gb179) (o := .cells #[.slice Ao23 t171.length co23, .slice Ao26 t174.length co26, .bool t177] 25 (0, 0)) (by (with_reducible repeat (first | refine blk_drewN ?_ _ | refine blk_drew ?_ | refine blk_alloc ?_ _)); exact BK179.out) hb); have n6_ := Aside0.mk (blk_below (g := gb188) (o := .cells #[.slice Ao29 t180.length co29, .slice Ao33 t183.length co33, .bool t186] 25 (0, 0)) (by (with_reducible repeat (first | refine blk_drewN ?_ _ | refine blk_drew ?_ | refine blk_alloc ?_ _)); exact BK188.out) hb); have n7_ := Aside0.mk (below_step (by repeat (first | (with_reducible first | exact HB.out | apply below_alloc | apply pw_below_drewN | apply below_drew1 | refine below_set ?_ GE169.out | refine below_set ?_ GE179.out | refine below_set ?_ GE188.out) | exact HB.out)) hb); clear HO_180000; clear HO_180001; clear HO_189000; clear HO_189001; clear BK169; clear BK179; clear BK188; clear HB; have HO_180000 := n0_; have HO_180001 := n1_; have HO_189000 := n2_; have HO_189001 := n3_; have BK169 := n4_; have BK179 := n5_; have BK188 := n6_; have HB := n7_; clear n0_ n1_ n2_ n3_ n4_ n5_ n6_ n7_; (try clear hb); (try clear hb2); (try clear hk); (try clear hi); have hcz110_0 : w109.cell? ⟨gb169, 0, none⟩ = some (.slice A0_0 l0_0.length c0_0) := (blk_cell BK169.out 0).trans rfl; have hcz110_1 : w109.cell? ⟨gb169, 1, none⟩ = some (.slice A0_1 l0_1.length c0_1) := (blk_cell BK169.out 1).trans rfl; have hcz110_2 : w109.cell? ⟨gb169, 2, none⟩ = some (.bool a0_2) := (blk_cell BK169.out 2).trans rfl; have hfz110_0 := blk_frozen BK169.out 0; have hfz110_1 := blk_frozen BK169.out 1; have hfz110_2 := blk_frozen BK169.out 2) | ((with_reducible refine gate_callee (f := 22) rfl ?_); refine goesL_ (some 90) rfl rfl Try.func22 (by kernel_rfl) rfl #[.agg #[.slice A0_0 l0_0.length c0_0, .slice A0_1 l0_1.length c0_1, .bool a0_2], .int .i64 a1, .int .i64 a2] rfl (by (try simp only [List.map_toArray, List.map_cons, List.map_nil]); first | done | rfl | (simp only [List.length_drop, List.length_take]; rfl)) ?_; (with_reducible refine (disk_Stretch.calls _ _ l0_0 _ _ l0_1 a0_2 a1 a2 t196 t197 _ ?side1 ?side2 ?side3 ?side4 A49.out).mono ?_); (case side1 => repeat (first | exact (Kd.C_below HR0_0.out HB.out) | (with_reducible refine Kd.C_alloc ?_ _) | (with_reducible refine Kd.C_drewN ?_ _) | (with_reducible refine Kd.C_drew ?_))); (case side2 => exact HC0_0.out); (case side3 => repeat (first | exact (Kd.C_below HR0_1.out HB.out) | (with_reducible refine Kd.C_alloc ?_ _) | (with_reducible refine Kd.C_drewN ?_ _) | (with_reducible refine Kd.C_drew ?_))); (case side4 => exact HC0_1.out); rintro e w111 ⟨rfl, hb⟩; refine ⟨_, rfl, ?_⟩; have n0_ := Aside0.mk (Kd.R_below (by (with_reducible repeat (first | apply Kd.R_alloc | apply Kd.R_drewN | apply Kd.R_drew)); exact HO_180000.out) hb); have n1_ := Aside0.mk (Kd.R_below (by (with_reducible repeat (first | apply Kd.R_alloc | apply Kd.R_drewN | apply Kd.R_drew)); exact HO_180001.out) hb); have n2_ := Aside0.mk (Kd.R_below (by (with_reducible repeat (first | apply Kd.R_alloc | apply Kd.R_drewN | apply Kd.R_drew)); exact HO_189000.out) hb); have n3_ := Aside0.mk (Kd.R_below (by (with_reducible repeat (first | apply Kd.R_alloc | apply Kd.R_drewN | apply Kd.R_drew)); exact HO_189001.out) hb); have n4_ := Aside0.mk (blk_below (g := gb169) (o := .cells #[.slice A0_0 l0_0.length c0_0, .slice A0_1 l0_1.length c0_1, .bool a0_2] 25 (0, 0)) (by (with_reducible repeat (first | refine blk_drewN ?_ _ | refine blk_drew ?_ | refine blk_alloc ?_ _)); exact BK169.out) hb); have n5_ := Aside0.mk (blk_below (g := gb179) (o := .cells #[.slice Ao23 t171.length co23, .slice Ao26 t174.length co26, .bool t177] 25 (0, 0)) (by (with_reducible repeat (first | refine blk_drewN ?_ _ | refine blk_drew ?_ | refine blk_alloc ?_ _)); exact BK179.out) hb); have n6_ := Aside0.mk (blk_below (g := gb188) (o := .cells #[.slice Ao29 t180.length co29, .slice Ao33 t183.length co33, .bool t186] 25 (0, 0)) (by (with_reducible repeat (first | refine blk_drewN ?_ _ | refine blk_drew ?_ | refine blk_alloc ?_ _)); exact BK188.out) hb); have n7_ := Aside0.mk (below_step (by repeat (first | (with_reducible first | exact HB.out | apply below_alloc | apply pw_below_drewN | apply below_drew1 | refine below_set ?_ GE169.out | refine below_set ?_ GE179.out | refine below_set ?_ GE188.out) | exact HB.out)) hb); clear HO_180000; clear HO_180001; clear HO_189000; clear HO_189001; clear BK169; clear BK179; clear BK188; clear HB; have HO_180000 := n0_; have HO_180001 := n1_; have HO_189000 := n2_; have HO_189001 := n3_; have BK169 := n4_; have BK179 := n5_; have BK188 := n6_; have HB := n7_; clear n0_ n1_ n2_ n3_ n4_ n5_ n6_ n7_; (try clear hb); (try clear hb2); (try clear hk); (try clear hi); have hcz112_0 : w111.cell? ⟨gb169, 0, none⟩ = some (.slice A0_0 l0_0.length c0_0) := (blk_cell BK169.out 0).trans rfl; have hcz112_1 : w111.cell? ⟨gb169, 1, none⟩ = some (.slice A0_1 l0_1.length c0_1) := (blk_cell BK169.out 1).trans rfl; have hcz112_2 : w111.cell? ⟨gb169, 2, none⟩ = some (.bool a0_2) := (blk_cell BK169.out 2).trans rfl; have hfz112_0 := blk_frozen BK169.out 0; have hfz112_1 := blk_frozen BK169.out 1; have hfz112_2 := blk_frozen BK169.out 2) | ((with_reducible refine gate_callee (f := 27) rfl ?_); refine goesL_ (some 97) rfl rfl Try.func27 (by kernel_rfl) rfl #[.agg #[.slice A0_0 l0_0.length c0_0, .slice A0_1 l0_1.length c0_1, .bool a0_2], .int .i64 a1, .int .i64 a2] rfl (by (try simp only [List.map_toArray, List.map_cons, List.map_nil]); first | done | rfl | (simp only [List.length_drop, List.length_take]; rfl)) ?_; (with_reducible refine (copyholdref04_Stretch.calls kj19 _ _ l0_0 _ _ l0_1 a0_2 a1 a2 t198 t199 _ ?side1 ?side2 ?side3 ?side4 A50.out).mono ?_); (case side1 => repeat (first | exact (Kd.C_below HR0_0.out HB.out) | (with_reducible refine Kd.C_alloc ?_ _) | (with_reducible refine Kd.C_drewN ?_ _) | (with_reducible refine Kd.C_drew ?_))); (case side2 => exact HC0_0.out); (case side3 => repeat (first | exact (Kd.C_below HR0_1.out HB.out) | (with_reducible refine Kd.C_alloc ?_ _) | (with_reducible refine Kd.C_drewN ?_ _) | (with_reducible refine Kd.C_drew ?_))); (case side4 => exact HC0_1.out); rintro e w113 ⟨rfl, hb⟩; refine ⟨_, rfl, ?_⟩; have n0_ := Aside0.mk (Kd.R_below (by (with_reducible repeat (first | apply Kd.R_alloc | apply Kd.R_drewN | apply Kd.R_drew)); exact HO_180000.out) hb); have n1_ := Aside0.mk (Kd.R_below (by (with_reducible repeat (first | apply Kd.R_alloc | apply Kd.R_drewN | apply Kd.R_drew)); exact HO_180001.out) hb); have n2_ := Aside0.mk (Kd.R_below (by (with_reducible repeat (first | apply Kd.R_alloc | apply Kd.R_drewN | apply Kd.R_drew)); exact HO_189000.out) hb); have n3_ := Aside0.mk (Kd.R_below (by (with_reducible repeat (first | apply Kd.R_alloc | apply Kd.R_drewN | apply Kd.R_drew)); exact HO_189001.out) hb); have n4_ := Aside0.mk (blk_below (g := gb169) (o := .cells #[.slice A0_0 l0_0.length c0_0, .slice A0_1 l0_1.length c0_1, .bool a0_2] 25 (0, 0)) (by (with_reducible repeat (first | refine blk_drewN ?_ _ | refine blk_drew ?_ | refine blk_alloc ?_ _)); exact BK169.out) hb); have n5_ := Aside0.mk (blk_below (g := gb179) (o := .cells #[.slice Ao23 t171.length co23, .slice Ao26 t174.length co26, .bool t177] 25 (0, 0)) (by (with_reducible repeat (first | refine blk_drewN ?_ _ | refine blk_drew ?_ | refine blk_alloc ?_ _)); exact BK179.out) hb); have n6_ := Aside0.mk (blk_below (g := gb188) (o := .cells #[.slice Ao29 t180.length co29, .slice Ao33 t183.length co33, .bool t186] 25 (0, 0)) (by (with_reducible repeat (first | refine blk_drewN ?_ _ | refine blk_drew ?_ | refine blk_alloc ?_ _)); exact BK188.out) hb); have n7_ := Aside0.mk (below_step (by repeat (first | (with_reducible first | exact HB.out | apply below_alloc | apply pw_below_drewN | apply below_drew1 | refine below_set ?_ GE169.out | refine below_set ?_ GE179.out | refine below_set ?_ GE188.out) | exact HB.out)) hb); clear HO_180000; clear HO_180001; clear HO_189000; clear HO_189001; clear BK169; clear BK179; clear BK188; clear HB; have HO_180000 := n0_; have HO_180001 := n1_; have HO_189000 := n2_; have HO_189001 := n3_; have BK169 := n4_; have BK179 := n5_; have BK188 := n6_; have HB := n7_; clear n0_ n1_ n2_ n3_ n4_ n5_ n6_ n7_; (try clear hb); (try clear hb2); (try clear hk); (try clear hi)))
                      have n0_ := Aside0.mk (Kd.R_drew HO_180000.out)
                      have n1_ := Aside0.mk (Kd.R_drew HO_180001.out)
                      have n2_ := Aside0.mk (Kd.R_drew HO_189000.out)
                      have n3_ := Aside0.mk (Kd.R_drew HO_189001.out)
                      have n4_ := Aside0.mk (blk_drew BK169.out)
                      have n5_ := Aside0.mk (blk_drew BK179.out)
                      have n6_ := Aside0.mk (blk_drew BK188.out)
                      have n7_ := Aside0.mk (below_drew1 HB.out)
                      clear HO_180000
                      clear HO_180001
                      clear HO_189000
                      clear HO_189001
                      clear BK169
                      clear BK179
                      clear BK188
                      clear HB
                      have HO_180000 := n0_
                      have HO_180001 := n1_
                      have HO_189000 := n2_
                      have HO_189001 := n3_
                      have BK169 := n4_
                      have BK179 := n5_
                      have BK188 := n6_
                      have HB := n7_
                      clear n0_ n1_ n2_ n3_ n4_ n5_ n6_ n7_
                      refine start_ (n := 6) (S := fun w' => w'.cell? ⟨gb169, 0, none⟩ = some (.slice A0_0 l0_0.length c0_0) ∧ w'.cell? ⟨gb169, 1, none⟩ = some (.slice A0_1 l0_1.length c0_1) ∧ w'.cell? ⟨gb169, 2, none⟩ = some (.bool a0_2)) (ds := []) #[false, false, false, false, false, false] (by kernel_rfl) rfl rfl ⟨(blk_cell BK169.out 0).trans rfl, (blk_cell BK169.out 1).trans rfl, (blk_cell BK169.out 2).trans rfl⟩ (fun hHeld => ?_)
                      generalize w113.drew = w114 at HO_180000 HO_180001 HO_189000 HO_189001 BK169 BK179 BK188 HB hHeld ⊢
                      refine take_ (i := 0) (N := some 100) (v := ?_) (a' := ?_) #[true, false, false, false, false, false] rfl rfl (by kernel_rfl) (fun _ _ _ h => h) (Or.inl ⟨by rfl, ?_⟩) hHeld ?_ ?_
                      rotate_left
                      · rintro w' ⟨s0, s1, s2⟩
                        go_simp
                        with_reducible rfl
                      rotate_left
                      · simp only [Act.put, List.setIfInBounds_toArray, List.set_cons_zero, List.set_cons_succ, i64_w, i32_w]
                        rfl
                      refine take_ (i := 2) (N := some 102) (v := ?_) (a' := ?_) #[true, false, true, false, false, false] rfl rfl (by kernel_rfl) (fun _ _ _ h => h) (Or.inl ⟨by rfl, ?_⟩) hHeld ?_ ?_
                      rotate_left
                      · rintro w' ⟨s0, s1, s2⟩
                        go_simp
                        with_reducible rfl
                      rotate_left
                      · simp only [Act.put, List.setIfInBounds_toArray, List.set_cons_zero, List.set_cons_succ, i64_w, i32_w]
                        rfl
                      refine one_ (i := 1) (N := some 101) #[true, true, true, false, false, false] rfl rfl (by kernel_rfl) (by decide) (fun K hK => ?_)
                      refine goes_ Try.func19 (by kernel_rfl) rfl #[.agg #[.slice A0_0 l0_0.length c0_0, .slice A0_1 l0_1.length c0_1, .bool a0_2]] (by rfl) rfl rfl (by (try simp only [List.map_toArray, List.map_cons, List.map_nil]); first | done | rfl | (simp only [List.length_drop, List.length_take]; rfl)) ?_
                      with_reducible refine (disk_Image.calls _ _ l0_0 _ _ l0_1 a0_2 t200 _ ?side1 ?side2 ?side3 ?side4 A51.out).mono ?_
                      (case side1 => repeat (first | exact (Kd.C_below HR0_0.out HB.out) | (with_reducible refine Kd.C_alloc ?_ _) | (with_reducible refine Kd.C_drewN ?_ _) | (with_reducible refine Kd.C_drew ?_)))
                      (case side2 => exact HC0_0.out)
                      (case side3 => repeat (first | exact (Kd.C_below HR0_1.out HB.out) | (with_reducible refine Kd.C_alloc ?_ _) | (with_reducible refine Kd.C_drewN ?_ _) | (with_reducible refine Kd.C_drew ?_)))
                      (case side4 => exact HC0_1.out)
                      rintro e w115 ⟨v201, rfl, ho0, hb⟩
                      refine ⟨_, rfl, ?_⟩
                      have n0_ := Aside0.mk (Kd.R_elder' (by (with_reducible repeat (first | apply Kd.R_alloc | apply Kd.R_drewN | apply Kd.R_drew)); exact HO_180000.out) (Kd.R_base ho0) hb)
                      have n1_ := Aside0.mk (Kd.R_below (by (with_reducible repeat (first | apply Kd.R_alloc | apply Kd.R_drewN | apply Kd.R_drew)); exact HO_180001.out) hb)
                      have n2_ := Aside0.mk (Kd.R_elder' (by (with_reducible repeat (first | apply Kd.R_alloc | apply Kd.R_drewN | apply Kd.R_drew)); exact HO_189000.out) (Kd.R_base ho0) hb)
                      have n3_ := Aside0.mk (Kd.R_below (by (with_reducible repeat (first | apply Kd.R_alloc | apply Kd.R_drewN | apply Kd.R_drew)); exact HO_189001.out) hb)
                      have n4_ := Aside0.mk (Kd.R_lower (Kd.R_new' (Kd.R_new' ho0 (Kd.R_lt (by (with_reducible repeat (first | apply Kd.R_alloc | apply Kd.R_drewN | apply Kd.R_drew)); exact HO_180000.out))) (Kd.R_lt (by (with_reducible repeat (first | apply Kd.R_alloc | apply Kd.R_drewN | apply Kd.R_drew)); exact HO_189000.out))) (below_size (by repeat (first | (with_reducible first | exact HB.out | apply below_alloc | apply pw_below_drewN | apply below_drew1 | refine below_set ?_ GE169.out | refine below_set ?_ GE179.out | refine below_set ?_ GE188.out) | exact HB.out))))
                      have n5_ := Aside0.mk (blk_below (g := gb169) (o := .cells #[.slice A0_0 l0_0.length c0_0, .slice A0_1 l0_1.length c0_1, .bool a0_2] 25 (0, 0)) (by (with_reducible repeat (first | refine blk_drewN ?_ _ | refine blk_drew ?_ | refine blk_alloc ?_ _)); exact BK169.out) hb)
                      have n6_ := Aside0.mk (blk_below (g := gb179) (o := .cells #[.slice Ao23 t171.length co23, .slice Ao26 t174.length co26, .bool t177] 25 (0, 0)) (by (with_reducible repeat (first | refine blk_drewN ?_ _ | refine blk_drew ?_ | refine blk_alloc ?_ _)); exact BK179.out) hb)
                      have n7_ := Aside0.mk (blk_below (g := gb188) (o := .cells #[.slice Ao29 t180.length co29, .slice Ao33 t183.length co33, .bool t186] 25 (0, 0)) (by (with_reducible repeat (first | refine blk_drewN ?_ _ | refine blk_drew ?_ | refine blk_alloc ?_ _)); exact BK188.out) hb)
                      have n8_ := Aside0.mk (below_step (by repeat (first | (with_reducible first | exact HB.out | apply below_alloc | apply pw_below_drewN | apply below_drew1 | refine below_set ?_ GE169.out | refine below_set ?_ GE179.out | refine below_set ?_ GE188.out) | exact HB.out)) hb)
                      clear HO_180000
                      clear HO_180001
                      clear HO_189000
                      clear HO_189001
                      clear BK169
                      clear BK179
                      clear BK188
                      clear HB
                      have HO_180000 := n0_
                      have HO_180001 := n1_
                      have HO_189000 := n2_
                      have HO_189001 := n3_
                      have HO202 := n4_
                      have BK169 := n5_
                      have BK179 := n6_
                      have BK188 := n7_
                      have HB := n8_
                      clear n0_ n1_ n2_ n3_ n4_ n5_ n6_ n7_ n8_
                      (try clear hb)
                      (try clear hb2)
                      (try clear hk)
                      (try clear hi)
                      (try clear ho0)
                      refine hK.out _ _ ⟨(blk_cell BK169.out 0).trans rfl, (blk_cell BK169.out 1).trans rfl, (blk_cell BK169.out 2).trans rfl⟩ (fun hHeld => ?_)
                      clear hK K
                      refine norm_ (a' := ?_) ?_ ?_
                      rotate_left
                      · show Act.put _ (some 101) _ = _
                        simp only [Act.put, List.setIfInBounds_toArray, List.set_cons_zero, List.set_cons_succ, i64_w, i32_w]
                        rfl
                      refine one_ (i := 3) (N := some 103) #[true, true, true, true, false, false] rfl rfl (by kernel_rfl) (by decide) (fun K hK => ?_)
                      refine goes_ Try.func28 (by kernel_rfl) rfl #[.agg #[.slice A0_0 l0_0.length c0_0, .slice A0_1 l0_1.length c0_1, .bool a0_2]] (by rfl) rfl rfl (by (try simp only [List.map_toArray, List.map_cons, List.map_nil]); first | done | rfl | (simp only [List.length_drop, List.length_take]; rfl)) ?_
                      with_reducible refine (copyholdref04_Image.calls kj19 _ _ l0_0 _ _ l0_1 a0_2 t203 _ ?side1 ?side2 ?side3 ?side4 A52.out).mono ?_
                      (case side1 => repeat (first | exact (Kd.C_below HR0_0.out HB.out) | (with_reducible refine Kd.C_alloc ?_ _) | (with_reducible refine Kd.C_drewN ?_ _) | (with_reducible refine Kd.C_drew ?_)))
                      (case side2 => exact HC0_0.out)
                      (case side3 => repeat (first | exact (Kd.C_below HR0_1.out HB.out) | (with_reducible refine Kd.C_alloc ?_ _) | (with_reducible refine Kd.C_drewN ?_ _) | (with_reducible refine Kd.C_drew ?_)))
                      (case side4 => exact HC0_1.out)
                      rintro e w116 ⟨v204, rfl, ho0, hb⟩
                      refine ⟨_, rfl, ?_⟩
                      have n0_ := Aside0.mk (Kd.R_elder' (by (with_reducible repeat (first | apply Kd.R_alloc | apply Kd.R_drewN | apply Kd.R_drew)); exact HO_180000.out) (Kd.R_base ho0) hb)
                      have n1_ := Aside0.mk (Kd.R_below (by (with_reducible repeat (first | apply Kd.R_alloc | apply Kd.R_drewN | apply Kd.R_drew)); exact HO_180001.out) hb)
                      have n2_ := Aside0.mk (Kd.R_elder' (by (with_reducible repeat (first | apply Kd.R_alloc | apply Kd.R_drewN | apply Kd.R_drew)); exact HO_189000.out) (Kd.R_base ho0) hb)
                      have n3_ := Aside0.mk (Kd.R_below (by (with_reducible repeat (first | apply Kd.R_alloc | apply Kd.R_drewN | apply Kd.R_drew)); exact HO_189001.out) hb)
                      have n4_ := Aside0.mk (Kd.R_elder' (by (with_reducible repeat (first | apply Kd.R_alloc | apply Kd.R_drewN | apply Kd.R_drew)); exact HO202.out) (Kd.R_base ho0) hb)
                      have n5_ := Aside0.mk (Kd.R_lower (Kd.R_new' (Kd.R_new' (Kd.R_new' ho0 (Kd.R_lt (by (with_reducible repeat (first | apply Kd.R_alloc | apply Kd.R_drewN | apply Kd.R_drew)); exact HO_180000.out))) (Kd.R_lt (by (with_reducible repeat (first | apply Kd.R_alloc | apply Kd.R_drewN | apply Kd.R_drew)); exact HO_189000.out))) (Kd.R_lt (by (with_reducible repeat (first | apply Kd.R_alloc | apply Kd.R_drewN | apply Kd.R_drew)); exact HO202.out))) (below_size (by repeat (first | (with_reducible first | exact HB.out | apply below_alloc | apply pw_below_drewN | apply below_drew1 | refine below_set ?_ GE169.out | refine below_set ?_ GE179.out | refine below_set ?_ GE188.out) | exact HB.out))))
                      have n6_ := Aside0.mk (blk_below (g := gb169) (o := .cells #[.slice A0_0 l0_0.length c0_0, .slice A0_1 l0_1.length c0_1, .bool a0_2] 25 (0, 0)) (by (with_reducible repeat (first | refine blk_drewN ?_ _ | refine blk_drew ?_ | refine blk_alloc ?_ _)); exact BK169.out) hb)
                      have n7_ := Aside0.mk (blk_below (g := gb179) (o := .cells #[.slice Ao23 t171.length co23, .slice Ao26 t174.length co26, .bool t177] 25 (0, 0)) (by (with_reducible repeat (first | refine blk_drewN ?_ _ | refine blk_drew ?_ | refine blk_alloc ?_ _)); exact BK179.out) hb)
                      have n8_ := Aside0.mk (blk_below (g := gb188) (o := .cells #[.slice Ao29 t180.length co29, .slice Ao33 t183.length co33, .bool t186] 25 (0, 0)) (by (with_reducible repeat (first | refine blk_drewN ?_ _ | refine blk_drew ?_ | refine blk_alloc ?_ _)); exact BK188.out) hb)
                      have n9_ := Aside0.mk (below_step (by repeat (first | (with_reducible first | exact HB.out | apply below_alloc | apply pw_below_drewN | apply below_drew1 | refine below_set ?_ GE169.out | refine below_set ?_ GE179.out | refine below_set ?_ GE188.out) | exact HB.out)) hb)
                      clear HO_180000
                      clear HO_180001
                      clear HO_189000
                      clear HO_189001
                      clear HO202
                      clear BK169
                      clear BK179
                      clear BK188
                      clear HB
                      have HO_180000 := n0_
                      have HO_180001 := n1_
                      have HO_189000 := n2_
                      have HO_189001 := n3_
                      have HO202 := n4_
                      have HO205 := n5_
                      have BK169 := n6_
                      have BK179 := n7_
                      have BK188 := n8_
                      have HB := n9_
                      clear n0_ n1_ n2_ n3_ n4_ n5_ n6_ n7_ n8_ n9_
                      (try clear hb)
                      (try clear hb2)
                      (try clear hk)
                      (try clear hi)
                      (try clear ho0)
                      obtain ⟨Ao117, co117, eo117⟩ := Kd.R_slice HO202.out
                      (first | subst eo117 | (injection eo117 with f1_ f2_ f3_; have f4_ := f1_.symm; have f5_ := f3_.symm; clear f1_ f2_ f3_; subst f4_; subst f5_))
                      obtain ⟨Ao118, co118, eo118⟩ := Kd.R_slice HO205.out
                      (first | subst eo118 | (injection eo118 with f1_ f2_ f3_; have f4_ := f1_.symm; have f5_ := f3_.symm; clear f1_ f2_ f3_; subst f4_; subst f5_))
                      refine hK.out _ _ ⟨(blk_cell BK169.out 0).trans rfl, (blk_cell BK169.out 1).trans rfl, (blk_cell BK169.out 2).trans rfl⟩ (fun hHeld => ?_)
                      clear hK K
                      refine norm_ (a' := ?_) ?_ ?_
                      rotate_left
                      · show Act.put _ (some 103) _ = _
                        simp only [Act.put, List.setIfInBounds_toArray, List.set_cons_zero, List.set_cons_succ, i64_w, i32_w]
                        rfl
                      refine one_ (i := 4) (N := some 104) #[true, true, true, true, true, false] rfl rfl (by kernel_rfl) (by decide) (fun K hK => ?_)
                      refine goes_ Try.func18 (by kernel_rfl) rfl #[.slice Ao117 t200.length co117, .slice Ao118 t203.length co118] (by rfl) rfl rfl (by (try simp only [List.map_toArray, List.map_cons, List.map_nil]); first | done | rfl | (simp only [List.length_drop, List.length_take]; rfl)) ?_
                      with_reducible refine (copyholdref01_Strings.calls kj19 _ _ t200 _ _ t203 t206 _ ?side1 ?side2 ?side3 ?side4 A53.out).mono ?_
                      (case side1 => repeat (first | exact (Kd.R_reads' HO202.out).2.2 | (with_reducible refine Kd.C_alloc ?_ _) | (with_reducible refine Kd.C_drewN ?_ _) | (with_reducible refine Kd.C_drew ?_)))
                      (case side2 => exact (Kd.R_reads' HO202.out).2.1)
                      (case side3 => repeat (first | exact (Kd.R_reads' HO205.out).2.2 | (with_reducible refine Kd.C_alloc ?_ _) | (with_reducible refine Kd.C_drewN ?_ _) | (with_reducible refine Kd.C_drew ?_)))
                      (case side4 => exact (Kd.R_reads' HO205.out).2.1)
                      rintro e w' ⟨rfl, ⟨nd, rfl⟩⟩
                      refine ⟨_, rfl, ?_⟩
                      refine hK.out _ _ ⟨(blk_cell BK169.out 0).trans rfl, (blk_cell BK169.out 1).trans rfl, (blk_cell BK169.out 2).trans rfl⟩ (fun hHeld => ?_)
                      clear hK K
                      refine norm_ (a' := ?_) ?_ ?_
                      rotate_left
                      · show Act.put _ (some 104) _ = _
                        simp only [Act.put, List.setIfInBounds_toArray, List.set_cons_zero, List.set_cons_succ, i64_w, i32_w]
                        rfl
                      refine pure_ (i := 5) (N := some 22) (v := ?_) (a' := ?_) #[true, true, true, true, true, true] rfl rfl (by kernel_rfl) (fun _ _ _ h => h) (Or.inl ⟨by rfl, ?_⟩) ?_ ?_
                      rotate_left
                      · intro w'
                        go_simp
                        with_reducible rfl
                      rotate_left
                      · simp only [Act.put, List.setIfInBounds_toArray, List.set_cons_zero, List.set_cons_succ, i64_w, i32_w]
                        rfl
                      refine done_ (by kernel_rfl) ?_
                      try go_wp2
                      go_ret
                      exact ⟨by first | rfl | (simp [errW_none, errW_some] <;> rfl) | (simp [*, errW_none, errW_some] <;> rfl), by repeat (first | (with_reducible first | exact HB.out | apply below_alloc | apply pw_below_drewN | apply below_drew1 | refine below_set ?_ GE169.out | refine below_set ?_ GE179.out | refine below_set ?_ GE188.out) | exact HB.out)⟩
                  · rw [if_neg c55] at H
                    have c55b0 : (t192.toList == t194.toList) = false := beq_eq_false_iff_ne.mpr c55
                    have c55b1 : (t192.toList != t194.toList) = true := bne_iff_ne.mpr c55
                    obtain rfl := Option.some.inj H
                    have hnb119 := NB169_179.out
                    have hnc119 := NB179_169.out
                    have hnb120 := NB169_188.out
                    have hnc120 := NB188_169.out
                    have hcz121_0 : wc.cell? ⟨gb169, 0, none⟩ = some (.slice A0_0 l0_0.length c0_0) := (blk_cell BK169.out 0).trans rfl
                    have hcz121_1 : wc.cell? ⟨gb169, 1, none⟩ = some (.slice A0_1 l0_1.length c0_1) := (blk_cell BK169.out 1).trans rfl
                    have hcz121_2 : wc.cell? ⟨gb169, 2, none⟩ = some (.bool a0_2) := (blk_cell BK169.out 2).trans rfl
                    have hfz121_0 := blk_frozen BK169.out 0
                    have hfz121_1 := blk_frozen BK169.out 1
                    have hfz121_2 := blk_frozen BK169.out 2
                    try go_wp2_with (first | ((with_reducible refine gate_callee (f := 21) rfl ?_); refine goesL_ (some 77) rfl rfl Try.func21 (by kernel_rfl) rfl #[.agg #[.slice A0_0 l0_0.length c0_0, .slice A0_1 l0_1.length c0_1, .bool a0_2], .int .i64 a1] rfl (by (try simp only [List.map_toArray, List.map_cons, List.map_nil]); first | done | rfl | (simp only [List.length_drop, List.length_take]; rfl)) ?_; (with_reducible refine (disk_Read.calls _ _ l0_0 _ _ l0_1 a0_2 a1 t192 t193 _ ?side1 ?side2 ?side3 ?side4 A47.out).mono ?_); (case side1 => repeat (first | exact (Kd.C_below HR0_0.out HB.out) | (with_reducible refine Kd.C_alloc ?_ _) | (with_reducible refine Kd.C_drewN ?_ _) | (with_reducible refine Kd.C_drew ?_))); (case side2 => exact HC0_0.out); (case side3 => repeat (first | exact (Kd.C_below HR0_1.out HB.out) | (with_reducible refine Kd.C_alloc ?_ _) | (with_reducible refine Kd.C_drewN ?_ _) | (with_reducible refine Kd.C_drew ?_))); (case side4 => exact HC0_1.out); rintro e w122 ⟨rfl, hb⟩; refine ⟨_, rfl, ?_⟩; have n0_ := Aside0.mk (Kd.R_below (by (with_reducible repeat (first | apply Kd.R_alloc | apply Kd.R_drewN | apply Kd.R_drew)); exact HO_180000.out) hb); have n1_ := Aside0.mk (Kd.R_below (by (with_reducible repeat (first | apply Kd.R_alloc | apply Kd.R_drewN | apply Kd.R_drew)); exact HO_180001.out) hb); have n2_ := Aside0.mk (Kd.R_below (by (with_reducible repeat (first | apply Kd.R_alloc | apply Kd.R_drewN | apply Kd.R_drew)); exact HO_189000.out) hb); have n3_ := Aside0.mk (Kd.R_below (by (with_reducible repeat (first | apply Kd.R_alloc | apply Kd.R_drewN | apply Kd.R_drew)); exact HO_189001.out) hb); have n4_ := Aside0.mk (blk_below (g := gb169) (o := .cells #[.slice A0_0 l0_0.length c0_0, .slice A0_1 l0_1.length c0_1, .bool a0_2] 25 (0, 0)) (by (with_reducible repeat (first | refine blk_drewN ?_ _ | refine blk_drew ?_ | refine blk_alloc ?_ _)); exact BK169.out) hb); have n5_ := Aside0.mk (blk_below (g := gb179) (o := .cells #[.slice Ao23 t171.length co23, .slice Ao26 t174.length co26, .bool t177] 25 (0, 0)) (by (with_reducible repeat (first | refine blk_drewN ?_ _ | refine blk_drew ?_ | refine blk_alloc ?_ _)); exact BK179.out) hb); have n6_ := Aside0.mk (blk_below (g := gb188) (o := .cells #[.slice Ao29 t180.length co29, .slice Ao33 t183.length co33, .bool t186] 25 (0, 0)) (by (with_reducible repeat (first | refine blk_drewN ?_ _ | refine blk_drew ?_ | refine blk_alloc ?_ _)); exact BK188.out) hb); have n7_ := Aside0.mk (below_step (by repeat (first | (with_reducible first | exact HB.out | apply below_alloc | apply pw_below_drewN | apply below_drew1 | refine below_set ?_ GE169.out | refine below_set ?_ GE179.out | refine below_set ?_ GE188.out) | exact HB.out)) hb); clear HO_180000; clear HO_180001; clear HO_189000; clear HO_189001; clear BK169; clear BK179; clear BK188; clear HB; have HO_180000 := n0_; have HO_180001 := n1_; have HO_189000 := n2_; have HO_189001 := n3_; have BK169 := n4_; have BK179 := n5_; have BK188 := n6_; have HB := n7_; clear n0_ n1_ n2_ n3_ n4_ n5_ n6_ n7_; (try clear hb); (try clear hb2); (try clear hk); (try clear hi); have hcz123_0 : w122.cell? ⟨gb169, 0, none⟩ = some (.slice A0_0 l0_0.length c0_0) := (blk_cell BK169.out 0).trans rfl; have hcz123_1 : w122.cell? ⟨gb169, 1, none⟩ = some (.slice A0_1 l0_1.length c0_1) := (blk_cell BK169.out 1).trans rfl; have hcz123_2 : w122.cell? ⟨gb169, 2, none⟩ = some (.bool a0_2) := (blk_cell BK169.out 2).trans rfl; have hfz123_0 := blk_frozen BK169.out 0; have hfz123_1 := blk_frozen BK169.out 1; have hfz123_2 := blk_frozen BK169.out 2) | ((with_reducible refine gate_callee (f := 26) rfl ?_); refine goesL_ (some 83) rfl rfl Try.func26 (by kernel_rfl) rfl #[.agg #[.slice A0_0 l0_0.length c0_0, .slice A0_1 l0_1.length c0_1, .bool a0_2], .int .i64 a1] rfl (by (try simp only [List.map_toArray, List.map_cons, List.map_nil]); first | done | rfl | (simp only [List.length_drop, List.length_take]; rfl)) ?_; (with_reducible refine (copyholdref04_Read.calls kj19 _ _ l0_0 _ _ l0_1 a0_2 a1 t194 t195 _ ?side1 ?side2 ?side3 ?side4 A48.out).mono ?_); (case side1 => repeat (first | exact (Kd.C_below HR0_0.out HB.out) | (with_reducible refine Kd.C_alloc ?_ _) | (with_reducible refine Kd.C_drewN ?_ _) | (with_reducible refine Kd.C_drew ?_))); (case side2 => exact HC0_0.out); (case side3 => repeat (first | exact (Kd.C_below HR0_1.out HB.out) | (with_reducible refine Kd.C_alloc ?_ _) | (with_reducible refine Kd.C_drewN ?_ _) | (with_reducible refine Kd.C_drew ?_))); (case side4 => exact HC0_1.out); rintro e w124 ⟨rfl, hb⟩; refine ⟨_, rfl, ?_⟩; have n0_ := Aside0.mk (Kd.R_below (by (with_reducible repeat (first | apply Kd.R_alloc | apply Kd.R_drewN | apply Kd.R_drew)); exact HO_180000.out) hb); have n1_ := Aside0.mk (Kd.R_below (by (with_reducible repeat (first | apply Kd.R_alloc | apply Kd.R_drewN | apply Kd.R_drew)); exact HO_180001.out) hb); have n2_ := Aside0.mk (Kd.R_below (by (with_reducible repeat (first | apply Kd.R_alloc | apply Kd.R_drewN | apply Kd.R_drew)); exact HO_189000.out) hb); have n3_ := Aside0.mk (Kd.R_below (by (with_reducible repeat (first | apply Kd.R_alloc | apply Kd.R_drewN | apply Kd.R_drew)); exact HO_189001.out) hb); have n4_ := Aside0.mk (blk_below (g := gb169) (o := .cells #[.slice A0_0 l0_0.length c0_0, .slice A0_1 l0_1.length c0_1, .bool a0_2] 25 (0, 0)) (by (with_reducible repeat (first | refine blk_drewN ?_ _ | refine blk_drew ?_ | refine blk_alloc ?_ _)); exact BK169.out) hb); have n5_ := Aside0.mk (blk_below (g := gb179) (o := .cells #[.slice Ao23 t171.length co23, .slice Ao26 t174.length co26, .bool t177] 25 (0, 0)) (by (with_reducible repeat (first | refine blk_drewN ?_ _ | refine blk_drew ?_ | refine blk_alloc ?_ _)); exact BK179.out) hb); have n6_ := Aside0.mk (blk_below (g := gb188) (o := .cells #[.slice Ao29 t180.length co29, .slice Ao33 t183.length co33, .bool t186] 25 (0, 0)) (by (with_reducible repeat (first | refine blk_drewN ?_ _ | refine blk_drew ?_ | refine blk_alloc ?_ _)); exact BK188.out) hb); have n7_ := Aside0.mk (below_step (by repeat (first | (with_reducible first | exact HB.out | apply below_alloc | apply pw_below_drewN | apply below_drew1 | refine below_set ?_ GE169.out | refine below_set ?_ GE179.out | refine below_set ?_ GE188.out) | exact HB.out)) hb); clear HO_180000; clear HO_180001; clear HO_189000; clear HO_189001; clear BK169; clear BK179; clear BK188; clear HB; have HO_180000 := n0_; have HO_180001 := n1_; have HO_189000 := n2_; have HO_189001 := n3_; have BK169 := n4_; have BK179 := n5_; have BK188 := n6_; have HB := n7_; clear n0_ n1_ n2_ n3_ n4_ n5_ n6_ n7_; (try clear hb); (try clear hb2); (try clear hk); (try clear hi); have hcz125_0 : w124.cell? ⟨gb169, 0, none⟩ = some (.slice A0_0 l0_0.length c0_0) := (blk_cell BK169.out 0).trans rfl; have hcz125_1 : w124.cell? ⟨gb169, 1, none⟩ = some (.slice A0_1 l0_1.length c0_1) := (blk_cell BK169.out 1).trans rfl; have hcz125_2 : w124.cell? ⟨gb169, 2, none⟩ = some (.bool a0_2) := (blk_cell BK169.out 2).trans rfl; have hfz125_0 := blk_frozen BK169.out 0; have hfz125_1 := blk_frozen BK169.out 1; have hfz125_2 := blk_frozen BK169.out 2) | ((with_reducible refine gate_callee (f := 22) rfl ?_); refine goesL_ (some 90) rfl rfl Try.func22 (by kernel_rfl) rfl #[.agg #[.slice A0_0 l0_0.length c0_0, .slice A0_1 l0_1.length c0_1, .bool a0_2], .int .i64 a1, .int .i64 a2] rfl (by (try simp only [List.map_toArray, List.map_cons, List.map_nil]); first | done | rfl | (simp only [List.length_drop, List.length_take]; rfl)) ?_; (with_reducible refine (disk_Stretch.calls _ _ l0_0 _ _ l0_1 a0_2 a1 a2 t196 t197 _ ?side1 ?side2 ?side3 ?side4 A49.out).mono ?_); (case side1 => repeat (first | exact (Kd.C_below HR0_0.out HB.out) | (with_reducible refine Kd.C_alloc ?_ _) | (with_reducible refine Kd.C_drewN ?_ _) | (with_reducible refine Kd.C_drew ?_))); (case side2 => exact HC0_0.out); (case side3 => repeat (first | exact (Kd.C_below HR0_1.out HB.out) | (with_reducible refine Kd.C_alloc ?_ _) | (with_reducible refine Kd.C_drewN ?_ _) | (with_reducible refine Kd.C_drew ?_))); (case side4 => exact HC0_1.out); rintro e w126 ⟨rfl, hb⟩; refine ⟨_, rfl, ?_⟩; have n0_ := Aside0.mk (Kd.R_below (by (with_reducible repeat (first | apply Kd.R_alloc | apply Kd.R_drewN | apply Kd.R_drew)); exact HO_180000.out) hb); have n1_ := Aside0.mk (Kd.R_below (by (with_reducible repeat (first | apply Kd.R_alloc | apply Kd.R_drewN | apply Kd.R_drew)); exact HO_180001.out) hb); have n2_ := Aside0.mk (Kd.R_below (by (with_reducible repeat (first | apply Kd.R_alloc | apply Kd.R_drewN | apply Kd.R_drew)); exact HO_189000.out) hb); have n3_ := Aside0.mk (Kd.R_below (by (with_reducible repeat (first | apply Kd.R_alloc | apply Kd.R_drewN | apply Kd.R_drew)); exact HO_189001.out) hb); have n4_ := Aside0.mk (blk_below (g := gb169) (o := .cells #[.slice A0_0 l0_0.length c0_0, .slice A0_1 l0_1.length c0_1, .bool a0_2] 25 (0, 0)) (by (with_reducible repeat (first | refine blk_drewN ?_ _ | refine blk_drew ?_ | refine blk_alloc ?_ _)); exact BK169.out) hb); have n5_ := Aside0.mk (blk_below (g := gb179) (o := .cells #[.slice Ao23 t171.length co23, .slice Ao26 t174.length co26, .bool t177] 25 (0, 0)) (by (with_reducible repeat (first | refine blk_drewN ?_ _ | refine blk_drew ?_ | refine blk_alloc ?_ _)); exact BK179.out) hb); have n6_ := Aside0.mk (blk_below (g := gb188) (o := .cells #[.slice Ao29 t180.length co29, .slice Ao33 t183.length co33, .bool t186] 25 (0, 0)) (by (with_reducible repeat (first | refine blk_drewN ?_ _ | refine blk_drew ?_ | refine blk_alloc ?_ _)); exact BK188.out) hb); have n7_ := Aside0.mk (below_step (by repeat (first | (with_reducible first | exact HB.out | apply below_alloc | apply pw_below_drewN | apply below_drew1 | refine below_set ?_ GE169.out | refine below_set ?_ GE179.out | refine below_set ?_ GE188.out) | exact HB.out)) hb); clear HO_180000; clear HO_180001; clear HO_189000; clear HO_189001; clear BK169; clear BK179; clear BK188; clear HB; have HO_180000 := n0_; have HO_180001 := n1_; have HO_189000 := n2_; have HO_189001 := n3_; have BK169 := n4_; have BK179 := n5_; have BK188 := n6_; have HB := n7_; clear n0_ n1_ n2_ n3_ n4_ n5_ n6_ n7_; (try clear hb); (try clear hb2); (try clear hk); (try clear hi); have hcz127_0 : w126.cell? ⟨gb169, 0, none⟩ = some (.slice A0_0 l0_0.length c0_0) := (blk_cell BK169.out 0).trans rfl; have hcz127_1 : w126.cell? ⟨gb169, 1, none⟩ = some (.slice A0_1 l0_1.length c0_1) := (blk_cell BK169.out 1).trans rfl; have hcz127_2 : w126.cell? ⟨gb169, 2, none⟩ = some (.bool a0_2) := (blk_cell BK169.out 2).trans rfl; have hfz127_0 := blk_frozen BK169.out 0; have hfz127_1 := blk_frozen BK169.out 1; have hfz127_2 := blk_frozen BK169.out 2) | ((with_reducible refine gate_callee (f := 27) rfl ?_); refine goesL_ (some 97) rfl rfl Try.func27 (by kernel_rfl) rfl #[.agg #[.slice A0_0 l0_0.length c0_0, .slice A0_1 l0_1.length c0_1, .bool a0_2], .int .i64 a1, .int .i64 a2] rfl (by (try simp only [List.map_toArray, List.map_cons, List.map_nil]); first | done | rfl | (simp only [List.length_drop, List.length_take]; rfl)) ?_; (with_reducible refine (copyholdref04_Stretch.calls kj19 _ _ l0_0 _ _ l0_1 a0_2 a1 a2 t198 t199 _ ?side1 ?side2 ?side3 ?side4 A50.out).mono ?_); (case side1 => repeat (first | exact (Kd.C_below HR0_0.out HB.out) | (with_reducible refine Kd.C_alloc ?_ _) | (with_reducible refine Kd.C_drewN ?_ _) | (with_reducible refine Kd.C_drew ?_))); (case side2 => exact HC0_0.out); (case side3 => repeat (first | exact (Kd.C_below HR0_1.out HB.out) | (with_reducible refine Kd.C_alloc ?_ _) | (with_reducible refine Kd.C_drewN ?_ _) | (with_reducible refine Kd.C_drew ?_))); (case side4 => exact HC0_1.out); rintro e w128 ⟨rfl, hb⟩; refine ⟨_, rfl, ?_⟩; have n0_ := Aside0.mk (Kd.R_below (by (with_reducible repeat (first | apply Kd.R_alloc | apply Kd.R_drewN | apply Kd.R_drew)); exact HO_180000.out) hb); have n1_ := Aside0.mk (Kd.R_below (by (with_reducible repeat (first | apply Kd.R_alloc | apply Kd.R_drewN | apply Kd.R_drew)); exact HO_180001.out) hb); have n2_ := Aside0.mk (Kd.R_below (by (with_reducible repeat (first | apply Kd.R_alloc | apply Kd.R_drewN | apply Kd.R_drew)); exact HO_189000.out) hb); have n3_ := Aside0.mk (Kd.R_below (by (with_reducible repeat (first | apply Kd.R_alloc | apply Kd.R_drewN | apply Kd.R_drew)); exact HO_189001.out) hb); have n4_ := Aside0.mk (blk_below (g := gb169) (o := .cells #[.slice A0_0 l0_0.length c0_0, .slice A0_1 l0_1.length c0_1, .bool a0_2] 25 (0, 0)) (by (with_reducible repeat (first | refine blk_drewN ?_ _ | refine blk_drew ?_ | refine blk_alloc ?_ _)); exact BK169.out) hb); have n5_ := Aside0.mk (blk_below (g := gb179) (o := .cells #[.slice Ao23 t171.length co23, .slice Ao26 t174.length co26, .bool t177] 25 (0, 0)) (by (with_reducible repeat (first | refine blk_drewN ?_ _ | refine blk_drew ?_ | refine blk_alloc ?_ _)); exact BK179.out) hb); have n6_ := Aside0.mk (blk_below (g := gb188) (o := .cells #[.slice Ao29 t180.length co29, .slice Ao33 t183.length co33, .bool t186] 25 (0, 0)) (by (with_reducible repeat (first | refine blk_drewN ?_ _ | refine blk_drew ?_ | refine blk_alloc ?_ _)); exact BK188.out) hb); have n7_ := Aside0.mk (below_step (by repeat (first | (with_reducible first | exact HB.out | apply below_alloc | apply pw_below_drewN | apply below_drew1 | refine below_set ?_ GE169.out | refine below_set ?_ GE179.out | refine below_set ?_ GE188.out) | exact HB.out)) hb); clear HO_180000; clear HO_180001; clear HO_189000; clear HO_189001; clear BK169; clear BK179; clear BK188; clear HB; have HO_180000 := n0_; have HO_180001 := n1_; have HO_189000 := n2_; have HO_189001 := n3_; have BK169 := n4_; have BK179 := n5_; have BK188 := n6_; have HB := n7_; clear n0_ n1_ n2_ n3_ n4_ n5_ n6_ n7_; (try clear hb); (try clear hb2); (try clear hk); (try clear hi)))
                    have n0_ := Aside0.mk (Kd.R_drew HO_180000.out)
                    have n1_ := Aside0.mk (Kd.R_drew HO_180001.out)
                    have n2_ := Aside0.mk (Kd.R_drew HO_189000.out)
                    have n3_ := Aside0.mk (Kd.R_drew HO_189001.out)
                    have n4_ := Aside0.mk (blk_drew BK169.out)
                    have n5_ := Aside0.mk (blk_drew BK179.out)
                    have n6_ := Aside0.mk (blk_drew BK188.out)
                    have n7_ := Aside0.mk (below_drew1 HB.out)
                    clear HO_180000
                    clear HO_180001
                    clear HO_189000
                    clear HO_189001
                    clear BK169
                    clear BK179
                    clear BK188
                    clear HB
                    have HO_180000 := n0_
                    have HO_180001 := n1_
                    have HO_189000 := n2_
                    have HO_189001 := n3_
                    have BK169 := n4_
                    have BK179 := n5_
                    have BK188 := n6_
                    have HB := n7_
                    clear n0_ n1_ n2_ n3_ n4_ n5_ n6_ n7_
                    refine start_ (n := 6) (S := fun w' => w'.cell? ⟨gb169, 0, none⟩ = some (.slice A0_0 l0_0.length c0_0) ∧ w'.cell? ⟨gb169, 1, none⟩ = some (.slice A0_1 l0_1.length c0_1) ∧ w'.cell? ⟨gb169, 2, none⟩ = some (.bool a0_2)) (ds := []) #[false, false, false, false, false, false] (by kernel_rfl) rfl rfl ⟨(blk_cell BK169.out 0).trans rfl, (blk_cell BK169.out 1).trans rfl, (blk_cell BK169.out 2).trans rfl⟩ (fun hHeld => ?_)
                    generalize w128.drew = w129 at HO_180000 HO_180001 HO_189000 HO_189001 BK169 BK179 BK188 HB hHeld ⊢
                    refine take_ (i := 0) (N := some 100) (v := ?_) (a' := ?_) #[true, false, false, false, false, false] rfl rfl (by kernel_rfl) (fun _ _ _ h => h) (Or.inl ⟨by rfl, ?_⟩) hHeld ?_ ?_
                    rotate_left
                    · rintro w' ⟨s0, s1, s2⟩
                      go_simp
                      with_reducible rfl
                    rotate_left
                    · simp only [Act.put, List.setIfInBounds_toArray, List.set_cons_zero, List.set_cons_succ, i64_w, i32_w]
                      rfl
                    refine take_ (i := 2) (N := some 102) (v := ?_) (a' := ?_) #[true, false, true, false, false, false] rfl rfl (by kernel_rfl) (fun _ _ _ h => h) (Or.inl ⟨by rfl, ?_⟩) hHeld ?_ ?_
                    rotate_left
                    · rintro w' ⟨s0, s1, s2⟩
                      go_simp
                      with_reducible rfl
                    rotate_left
                    · simp only [Act.put, List.setIfInBounds_toArray, List.set_cons_zero, List.set_cons_succ, i64_w, i32_w]
                      rfl
                    refine one_ (i := 1) (N := some 101) #[true, true, true, false, false, false] rfl rfl (by kernel_rfl) (by decide) (fun K hK => ?_)
                    refine goes_ Try.func19 (by kernel_rfl) rfl #[.agg #[.slice A0_0 l0_0.length c0_0, .slice A0_1 l0_1.length c0_1, .bool a0_2]] (by rfl) rfl rfl (by (try simp only [List.map_toArray, List.map_cons, List.map_nil]); first | done | rfl | (simp only [List.length_drop, List.length_take]; rfl)) ?_
                    with_reducible refine (disk_Image.calls _ _ l0_0 _ _ l0_1 a0_2 t200 _ ?side1 ?side2 ?side3 ?side4 A51.out).mono ?_
                    (case side1 => repeat (first | exact (Kd.C_below HR0_0.out HB.out) | (with_reducible refine Kd.C_alloc ?_ _) | (with_reducible refine Kd.C_drewN ?_ _) | (with_reducible refine Kd.C_drew ?_)))
                    (case side2 => exact HC0_0.out)
                    (case side3 => repeat (first | exact (Kd.C_below HR0_1.out HB.out) | (with_reducible refine Kd.C_alloc ?_ _) | (with_reducible refine Kd.C_drewN ?_ _) | (with_reducible refine Kd.C_drew ?_)))
                    (case side4 => exact HC0_1.out)
                    rintro e w130 ⟨v201, rfl, ho0, hb⟩
                    refine ⟨_, rfl, ?_⟩
                    have n0_ := Aside0.mk (Kd.R_elder' (by (with_reducible repeat (first | apply Kd.R_alloc | apply Kd.R_drewN | apply Kd.R_drew)); exact HO_180000.out) (Kd.R_base ho0) hb)
                    have n1_ := Aside0.mk (Kd.R_below (by (with_reducible repeat (first | apply Kd.R_alloc | apply Kd.R_drewN | apply Kd.R_drew)); exact HO_180001.out) hb)
                    have n2_ := Aside0.mk (Kd.R_elder' (by (with_reducible repeat (first | apply Kd.R_alloc | apply Kd.R_drewN | apply Kd.R_drew)); exact HO_189000.out) (Kd.R_base ho0) hb)
                    have n3_ := Aside0.mk (Kd.R_below (by (with_reducible repeat (first | apply Kd.R_alloc | apply Kd.R_drewN | apply Kd.R_drew)); exact HO_189001.out) hb)
                    have n4_ := Aside0.mk (Kd.R_lower (Kd.R_new' (Kd.R_new' ho0 (Kd.R_lt (by (with_reducible repeat (first | apply Kd.R_alloc | apply Kd.R_drewN | apply Kd.R_drew)); exact HO_180000.out))) (Kd.R_lt (by (with_reducible repeat (first | apply Kd.R_alloc | apply Kd.R_drewN | apply Kd.R_drew)); exact HO_189000.out))) (below_size (by repeat (first | (with_reducible first | exact HB.out | apply below_alloc | apply pw_below_drewN | apply below_drew1 | refine below_set ?_ GE169.out | refine below_set ?_ GE179.out | refine below_set ?_ GE188.out) | exact HB.out))))
                    have n5_ := Aside0.mk (blk_below (g := gb169) (o := .cells #[.slice A0_0 l0_0.length c0_0, .slice A0_1 l0_1.length c0_1, .bool a0_2] 25 (0, 0)) (by (with_reducible repeat (first | refine blk_drewN ?_ _ | refine blk_drew ?_ | refine blk_alloc ?_ _)); exact BK169.out) hb)
                    have n6_ := Aside0.mk (blk_below (g := gb179) (o := .cells #[.slice Ao23 t171.length co23, .slice Ao26 t174.length co26, .bool t177] 25 (0, 0)) (by (with_reducible repeat (first | refine blk_drewN ?_ _ | refine blk_drew ?_ | refine blk_alloc ?_ _)); exact BK179.out) hb)
                    have n7_ := Aside0.mk (blk_below (g := gb188) (o := .cells #[.slice Ao29 t180.length co29, .slice Ao33 t183.length co33, .bool t186] 25 (0, 0)) (by (with_reducible repeat (first | refine blk_drewN ?_ _ | refine blk_drew ?_ | refine blk_alloc ?_ _)); exact BK188.out) hb)
                    have n8_ := Aside0.mk (below_step (by repeat (first | (with_reducible first | exact HB.out | apply below_alloc | apply pw_below_drewN | apply below_drew1 | refine below_set ?_ GE169.out | refine below_set ?_ GE179.out | refine below_set ?_ GE188.out) | exact HB.out)) hb)
                    clear HO_180000
                    clear HO_180001
                    clear HO_189000
                    clear HO_189001
                    clear BK169
                    clear BK179
                    clear BK188
                    clear HB
                    have HO_180000 := n0_
                    have HO_180001 := n1_
                    have HO_189000 := n2_
                    have HO_189001 := n3_
                    have HO202 := n4_
                    have BK169 := n5_
                    have BK179 := n6_
                    have BK188 := n7_
                    have HB := n8_
                    clear n0_ n1_ n2_ n3_ n4_ n5_ n6_ n7_ n8_
                    (try clear hb)
                    (try clear hb2)
                    (try clear hk)
                    (try clear hi)
                    (try clear ho0)
                    refine hK.out _ _ ⟨(blk_cell BK169.out 0).trans rfl, (blk_cell BK169.out 1).trans rfl, (blk_cell BK169.out 2).trans rfl⟩ (fun hHeld => ?_)
                    clear hK K
                    refine norm_ (a' := ?_) ?_ ?_
                    rotate_left
                    · show Act.put _ (some 101) _ = _
                      simp only [Act.put, List.setIfInBounds_toArray, List.set_cons_zero, List.set_cons_succ, i64_w, i32_w]
                      rfl
                    refine one_ (i := 3) (N := some 103) #[true, true, true, true, false, false] rfl rfl (by kernel_rfl) (by decide) (fun K hK => ?_)
                    refine goes_ Try.func28 (by kernel_rfl) rfl #[.agg #[.slice A0_0 l0_0.length c0_0, .slice A0_1 l0_1.length c0_1, .bool a0_2]] (by rfl) rfl rfl (by (try simp only [List.map_toArray, List.map_cons, List.map_nil]); first | done | rfl | (simp only [List.length_drop, List.length_take]; rfl)) ?_
                    with_reducible refine (copyholdref04_Image.calls kj19 _ _ l0_0 _ _ l0_1 a0_2 t203 _ ?side1 ?side2 ?side3 ?side4 A52.out).mono ?_
                    (case side1 => repeat (first | exact (Kd.C_below HR0_0.out HB.out) | (with_reducible refine Kd.C_alloc ?_ _) | (with_reducible refine Kd.C_drewN ?_ _) | (with_reducible refine Kd.C_drew ?_)))
                    (case side2 => exact HC0_0.out)
                    (case side3 => repeat (first | exact (Kd.C_below HR0_1.out HB.out) | (with_reducible refine Kd.C_alloc ?_ _) | (with_reducible refine Kd.C_drewN ?_ _) | (with_reducible refine Kd.C_drew ?_)))
                    (case side4 => exact HC0_1.out)
                    rintro e w131 ⟨v204, rfl, ho0, hb⟩
                    refine ⟨_, rfl, ?_⟩
                    have n0_ := Aside0.mk (Kd.R_elder' (by (with_reducible repeat (first | apply Kd.R_alloc | apply Kd.R_drewN | apply Kd.R_drew)); exact HO_180000.out) (Kd.R_base ho0) hb)
                    have n1_ := Aside0.mk (Kd.R_below (by (with_reducible repeat (first | apply Kd.R_alloc | apply Kd.R_drewN | apply Kd.R_drew)); exact HO_180001.out) hb)
                    have n2_ := Aside0.mk (Kd.R_elder' (by (with_reducible repeat (first | apply Kd.R_alloc | apply Kd.R_drewN | apply Kd.R_drew)); exact HO_189000.out) (Kd.R_base ho0) hb)
                    have n3_ := Aside0.mk (Kd.R_below (by (with_reducible repeat (first | apply Kd.R_alloc | apply Kd.R_drewN | apply Kd.R_drew)); exact HO_189001.out) hb)
                    have n4_ := Aside0.mk (Kd.R_elder' (by (with_reducible repeat (first | apply Kd.R_alloc | apply Kd.R_drewN | apply Kd.R_drew)); exact HO202.out) (Kd.R_base ho0) hb)
                    have n5_ := Aside0.mk (Kd.R_lower (Kd.R_new' (Kd.R_new' (Kd.R_new' ho0 (Kd.R_lt (by (with_reducible repeat (first | apply Kd.R_alloc | apply Kd.R_drewN | apply Kd.R_drew)); exact HO_180000.out))) (Kd.R_lt (by (with_reducible repeat (first | apply Kd.R_alloc | apply Kd.R_drewN | apply Kd.R_drew)); exact HO_189000.out))) (Kd.R_lt (by (with_reducible repeat (first | apply Kd.R_alloc | apply Kd.R_drewN | apply Kd.R_drew)); exact HO202.out))) (below_size (by repeat (first | (with_reducible first | exact HB.out | apply below_alloc | apply pw_below_drewN | apply below_drew1 | refine below_set ?_ GE169.out | refine below_set ?_ GE179.out | refine below_set ?_ GE188.out) | exact HB.out))))
                    have n6_ := Aside0.mk (blk_below (g := gb169) (o := .cells #[.slice A0_0 l0_0.length c0_0, .slice A0_1 l0_1.length c0_1, .bool a0_2] 25 (0, 0)) (by (with_reducible repeat (first | refine blk_drewN ?_ _ | refine blk_drew ?_ | refine blk_alloc ?_ _)); exact BK169.out) hb)
                    have n7_ := Aside0.mk (blk_below (g := gb179) (o := .cells #[.slice Ao23 t171.length co23, .slice Ao26 t174.length co26, .bool t177] 25 (0, 0)) (by (with_reducible repeat (first | refine blk_drewN ?_ _ | refine blk_drew ?_ | refine blk_alloc ?_ _)); exact BK179.out) hb)
                    have n8_ := Aside0.mk (blk_below (g := gb188) (o := .cells #[.slice Ao29 t180.length co29, .slice Ao33 t183.length co33, .bool t186] 25 (0, 0)) (by (with_reducible repeat (first | refine blk_drewN ?_ _ | refine blk_drew ?_ | refine blk_alloc ?_ _)); exact BK188.out) hb)
                    have n9_ := Aside0.mk (below_step (by repeat (first | (with_reducible first | exact HB.out | apply below_alloc | apply pw_below_drewN | apply below_drew1 | refine below_set ?_ GE169.out | refine below_set ?_ GE179.out | refine below_set ?_ GE188.out) | exact HB.out)) hb)
                    clear HO_180000
                    clear HO_180001
                    clear HO_189000
                    clear HO_189001
                    clear HO202
                    clear BK169
                    clear BK179
                    clear BK188
                    clear HB
                    have HO_180000 := n0_
                    have HO_180001 := n1_
                    have HO_189000 := n2_
                    have HO_189001 := n3_
                    have HO202 := n4_
                    have HO205 := n5_
                    have BK169 := n6_
                    have BK179 := n7_
                    have BK188 := n8_
                    have HB := n9_
                    clear n0_ n1_ n2_ n3_ n4_ n5_ n6_ n7_ n8_ n9_
                    (try clear hb)
                    (try clear hb2)
                    (try clear hk)
                    (try clear hi)
                    (try clear ho0)
                    obtain ⟨Ao132, co132, eo132⟩ := Kd.R_slice HO202.out
                    (first | subst eo132 | (injection eo132 with f1_ f2_ f3_; have f4_ := f1_.symm; have f5_ := f3_.symm; clear f1_ f2_ f3_; subst f4_; subst f5_))
                    obtain ⟨Ao133, co133, eo133⟩ := Kd.R_slice HO205.out
                    (first | subst eo133 | (injection eo133 with f1_ f2_ f3_; have f4_ := f1_.symm; have f5_ := f3_.symm; clear f1_ f2_ f3_; subst f4_; subst f5_))
                    refine hK.out _ _ ⟨(blk_cell BK169.out 0).trans rfl, (blk_cell BK169.out 1).trans rfl, (blk_cell BK169.out 2).trans rfl⟩ (fun hHeld => ?_)
                    clear hK K
                    refine norm_ (a' := ?_) ?_ ?_
                    rotate_left
                    · show Act.put _ (some 103) _ = _
                      simp only [Act.put, List.setIfInBounds_toArray, List.set_cons_zero, List.set_cons_succ, i64_w, i32_w]
                      rfl
                    refine one_ (i := 4) (N := some 104) #[true, true, true, true, true, false] rfl rfl (by kernel_rfl) (by decide) (fun K hK => ?_)
                    refine goes_ Try.func18 (by kernel_rfl) rfl #[.slice Ao132 t200.length co132, .slice Ao133 t203.length co133] (by rfl) rfl rfl (by (try simp only [List.map_toArray, List.map_cons, List.map_nil]); first | done | rfl | (simp only [List.length_drop, List.length_take]; rfl)) ?_
                    with_reducible refine (copyholdref01_Strings.calls kj19 _ _ t200 _ _ t203 t206 _ ?side1 ?side2 ?side3 ?side4 A53.out).mono ?_
                    (case side1 => repeat (first | exact (Kd.R_reads' HO202.out).2.2 | (with_reducible refine Kd.C_alloc ?_ _) | (with_reducible refine Kd.C_drewN ?_ _) | (with_reducible refine Kd.C_drew ?_)))
                    (case side2 => exact (Kd.R_reads' HO202.out).2.1)
                    (case side3 => repeat (first | exact (Kd.R_reads' HO205.out).2.2 | (with_reducible refine Kd.C_alloc ?_ _) | (with_reducible refine Kd.C_drewN ?_ _) | (with_reducible refine Kd.C_drew ?_)))
                    (case side4 => exact (Kd.R_reads' HO205.out).2.1)
                    rintro e w' ⟨rfl, ⟨nd, rfl⟩⟩
                    refine ⟨_, rfl, ?_⟩
                    refine hK.out _ _ ⟨(blk_cell BK169.out 0).trans rfl, (blk_cell BK169.out 1).trans rfl, (blk_cell BK169.out 2).trans rfl⟩ (fun hHeld => ?_)
                    clear hK K
                    refine norm_ (a' := ?_) ?_ ?_
                    rotate_left
                    · show Act.put _ (some 104) _ = _
                      simp only [Act.put, List.setIfInBounds_toArray, List.set_cons_zero, List.set_cons_succ, i64_w, i32_w]
                      rfl
                    refine pure_ (i := 5) (N := some 22) (v := ?_) (a' := ?_) #[true, true, true, true, true, true] rfl rfl (by kernel_rfl) (fun _ _ _ h => h) (Or.inl ⟨by rfl, ?_⟩) ?_ ?_
                    rotate_left
                    · intro w'
                      go_simp
                      with_reducible rfl
                    rotate_left
                    · simp only [Act.put, List.setIfInBounds_toArray, List.set_cons_zero, List.set_cons_succ, i64_w, i32_w]
                      rfl
                    refine done_ (by kernel_rfl) ?_
                    try go_wp2
                    go_ret
                    exact ⟨by first | rfl | (simp [errW_none, errW_some] <;> rfl) | (simp [*, errW_none, errW_some] <;> rfl), by repeat (first | (with_reducible first | exact HB.out | apply below_alloc | apply pw_below_drewN | apply below_drew1 | refine below_set ?_ GE169.out | refine below_set ?_ GE179.out | refine below_set ?_ GE188.out) | exact HB.out)⟩
                · replace c54 := Bool.eq_false_iff.mpr c54
                  subst c54
                  have H1 : (some false) = some r := by rw [if_neg (show ¬ (false = true) by decide)] at H; exact H
                  clear H
                  have H := H1
                  clear H1
                  obtain rfl := Option.some.inj H
                  have hnb134 := NB169_179.out
                  have hnc134 := NB179_169.out
                  have hnb135 := NB169_188.out
                  have hnc135 := NB188_169.out
                  have hcz136_0 : wc.cell? ⟨gb169, 0, none⟩ = some (.slice A0_0 l0_0.length c0_0) := (blk_cell BK169.out 0).trans rfl
                  have hcz136_1 : wc.cell? ⟨gb169, 1, none⟩ = some (.slice A0_1 l0_1.length c0_1) := (blk_cell BK169.out 1).trans rfl
                  have hcz136_2 : wc.cell? ⟨gb169, 2, none⟩ = some (.bool a0_2) := (blk_cell BK169.out 2).trans rfl
                  have hfz136_0 := blk_frozen BK169.out 0
                  have hfz136_1 := blk_frozen BK169.out 1
                  have hfz136_2 := blk_frozen BK169.out 2
                  try go_wp2_with (first | ((with_reducible refine gate_callee (f := 21) rfl ?_); refine goesL_ (some 77) rfl rfl Try.func21 (by kernel_rfl) rfl #[.agg #[.slice A0_0 l0_0.length c0_0, .slice A0_1 l0_1.length c0_1, .bool a0_2], .int .i64 a1] rfl (by (try simp only [List.map_toArray, List.map_cons, List.map_nil]); first | done | rfl | (simp only [List.length_drop, List.length_take]; rfl)) ?_; (with_reducible refine (disk_Read.calls _ _ l0_0 _ _ l0_1 a0_2 a1 t192 t193 _ ?side1 ?side2 ?side3 ?side4 A47.out).mono ?_); (case side1 => repeat (first | exact (Kd.C_below HR0_0.out HB.out) | (with_reducible refine Kd.C_alloc ?_ _) | (with_reducible refine Kd.C_drewN ?_ _) | (with_reducible refine Kd.C_drew ?_))); (case side2 => exact HC0_0.out); (case side3 => repeat (first | exact (Kd.C_below HR0_1.out HB.out) | (with_reducible refine Kd.C_alloc ?_ _) | (with_reducible refine Kd.C_drewN ?_ _) | (with_reducible refine Kd.C_drew ?_))); (case side4 => exact HC0_1.out); rintro e w137 ⟨rfl, hb⟩; refine ⟨_, rfl, ?_⟩; have n0_ := Aside0.mk (Kd.R_below (by (with_reducible repeat (first | apply Kd.R_alloc | apply Kd.R_drewN | apply Kd.R_drew)); exact HO_180000.out) hb); have n1_ := Aside0.mk (Kd.R_below (by (with_reducible repeat (first | apply Kd.R_alloc | apply Kd.R_drewN | apply Kd.R_drew)); exact HO_180001.out) hb); have n2_ := Aside0.mk (Kd.R_below (by (with_reducible repeat (first | apply Kd.R_alloc | apply Kd.R_drewN | apply Kd.R_drew)); exact HO_189000.out) hb); have n3_ := Aside0.mk (Kd.R_below (by (with_reducible repeat (first | apply Kd.R_alloc | apply Kd.R_drewN | apply Kd.R_drew)); exact HO_189001.out) hb); have n4_ := Aside0.mk (blk_below (g := gb169) (o := .cells #[.slice A0_0 l0_0.length c0_0, .slice A0_1 l0_1.length c0_1, .bool a0_2] 25 (0, 0)) (by (with_reducible repeat (first | refine blk_drewN ?_ _ | refine blk_drew ?_ | refine blk_alloc ?_ _)); exact BK169.out) hb); have n5_ := Aside0.mk (blk_below (g := gb179) (o := .cells #[.slice Ao23 t171.length co23, .slice Ao26 t174.length co26, .bool t177] 25 (0, 0)) (by (with_reducible repeat (first | refine blk_drewN ?_ _ | refine blk_drew ?_ | refine blk_alloc ?_ _)); exact BK179.out) hb); have n6_ := Aside0.mk (blk_below (g := gb188) (o := .cells #[.slice Ao29 t180.length co29, .slice Ao33 t183.length co33, .bool t186] 25 (0, 0)) (by (with_reducible repeat (first | refine blk_drewN ?_ _ | refine blk_drew ?_ | refine blk_alloc ?_ _)); exact BK188.out) hb); have n7_ := Aside0.mk (below_step (by repeat (first | (with_reducible first | exact HB.out | apply below_alloc | apply pw_below_drewN | apply below_drew1 | refine below_set ?_ GE169.out | refine below_set ?_ GE179.out | refine below_set ?_ GE188.out) | exact HB.out)) hb); clear HO_180000; clear HO_180001; clear HO_189000; clear HO_189001; clear BK169; clear BK179; clear BK188; clear HB; have HO_180000 := n0_; have HO_180001 := n1_; have HO_189000 := n2_; have HO_189001 := n3_; have BK169 := n4_; have BK179 := n5_; have BK188 := n6_; have HB := n7_; clear n0_ n1_ n2_ n3_ n4_ n5_ n6_ n7_; (try clear hb); (try clear hb2); (try clear hk); (try clear hi); have hcz138_0 : w137.cell? ⟨gb169, 0, none⟩ = some (.slice A0_0 l0_0.length c0_0) := (blk_cell BK169.out 0).trans rfl; have hcz138_1 : w137.cell? ⟨gb169, 1, none⟩ = some (.slice A0_1 l0_1.length c0_1) := (blk_cell BK169.out 1).trans rfl; have hcz138_2 : w137.cell? ⟨gb169, 2, none⟩ = some (.bool a0_2) := (blk_cell BK169.out 2).trans rfl; have hfz138_0 := blk_frozen BK169.out 0; have hfz138_1 := blk_frozen BK169.out 1; have hfz138_2 := blk_frozen BK169.out 2) | ((with_reducible refine gate_callee (f := 26) rfl ?_); refine goesL_ (some 83) rfl rfl Try.func26 (by kernel_rfl) rfl #[.agg #[.slice A0_0 l0_0.length c0_0, .slice A0_1 l0_1.length c0_1, .bool a0_2], .int .i64 a1] rfl (by (try simp only [List.map_toArray, List.map_cons, List.map_nil]); first | done | rfl | (simp only [List.length_drop, List.length_take]; rfl)) ?_; (with_reducible refine (copyholdref04_Read.calls kj19 _ _ l0_0 _ _ l0_1 a0_2 a1 t194 t195 _ ?side1 ?side2 ?side3 ?side4 A48.out).mono ?_); (case side1 => repeat (first | exact (Kd.C_below HR0_0.out HB.out) | (with_reducible refine Kd.C_alloc ?_ _) | (with_reducible refine Kd.C_drewN ?_ _) | (with_reducible refine Kd.C_drew ?_))); (case side2 => exact HC0_0.out); (case side3 => repeat (first | exact (Kd.C_below HR0_1.out HB.out) | (with_reducible refine Kd.C_alloc ?_ _) | (with_reducible refine Kd.C_drewN ?_ _) | (with_reducible refine Kd.C_drew ?_))); (case side4 => exact HC0_1.out); rintro e w139 ⟨rfl, hb⟩; refine ⟨_, rfl, ?_⟩; have n0_ := Aside0.mk (Kd.R_below (by (with_reducible repeat (first | apply Kd.R_alloc | apply Kd.R_drewN | apply Kd.R_drew)); exact HO_180000.out) hb); have n1_ := Aside0.mk (Kd.R_below (by (with_reducible repeat (first | apply Kd.R_alloc | apply Kd.R_drewN | apply Kd.R_drew)); exact HO_180001.out) hb); have n2_ := Aside0.mk (Kd.R_below (by (with_reducible repeat (first | apply Kd.R_alloc | apply Kd.R_drewN | apply Kd.R_drew)); exact HO_189000.out) hb); have n3_ := Aside0.mk (Kd.R_below (by (with_reducible repeat (first | apply Kd.R_alloc | apply Kd.R_drewN | apply Kd.R_drew)); exact HO_189001.out) hb); have n4_ := Aside0.mk (blk_below (g := gb169) (o := .cells #[.slice A0_0 l0_0.length c0_0, .slice A0_1 l0_1.length c0_1, .bool a0_2] 25 (0, 0)) (by (with_reducible repeat (first | refine blk_drewN ?_ _ | refine blk_drew ?_ | refine blk_alloc ?_ _)); exact BK169.out) hb); have n5_ := Aside0.mk (blk_below (g := gb179) (o := .cells #[.slice Ao23 t171.length co23, .slice Ao26 t174.length co26, .bool t177] 25 (0, 0)) (by (with_reducible repeat (first | refine blk_drewN ?_ _ | refine blk_drew ?_ | refine blk_alloc ?_ _)); exact BK179.out) hb); have n6_ := Aside0.mk (blk_below (g := gb188) (o := .cells #[.slice Ao29 t180.length co29, .slice Ao33 t183.length co33, .bool t186] 25 (0, 0)) (by (with_reducible repeat (first | refine blk_drewN ?_ _ | refine blk_drew ?_ | refine blk_alloc ?_ _)); exact BK188.out) hb); have n7_ := Aside0.mk (below_step (by repeat (first | (with_reducible first | exact HB.out | apply below_alloc | apply pw_below_drewN | apply below_drew1 | refine below_set ?_ GE169.out | refine below_set ?_ GE179.out | refine below_set ?_ GE188.out) | exact HB.out)) hb); clear HO_180000; clear HO_180001; clear HO_189000; clear HO_189001; clear BK169; clear BK179; clear BK188; clear HB; have HO_180000 := n0_; have HO_180001 := n1_; have HO_189000 := n2_; have HO_189001 := n3_; have BK169 := n4_; have BK179 := n5_; have BK188 := n6_; have HB := n7_; clear n0_ n1_ n2_ n3_ n4_ n5_ n6_ n7_; (try clear hb); (try clear hb2); (try clear hk); (try clear hi); have hcz140_0 : w139.cell? ⟨gb169, 0, none⟩ = some (.slice A0_0 l0_0.length c0_0) := (blk_cell BK169.out 0).trans rfl; have hcz140_1 : w139.cell? ⟨gb169, 1, none⟩ = some (.slice A0_1 l0_1.length c0_1) := (blk_cell BK169.out 1).trans rfl; have hcz140_2 : w139.cell? ⟨gb169, 2, none⟩ = some (.bool a0_2) := (blk_cell BK169.out 2).trans rfl; have hfz140_0 := blk_frozen BK169.out 0; have hfz140_1 := blk_frozen BK169.out 1; have hfz140_2 := blk_frozen BK169.out 2) | ((with_reducible refine gate_callee (f := 22) rfl ?_); refine goesL_ (some 90) rfl rfl Try.func22 (by kernel_rfl) rfl #[.agg #[.slice A0_0 l0_0.length c0_0, .slice A0_1 l0_1.length c0_1, .bool a0_2], .int .i64 a1, .int .i64 a2] rfl (by (try simp only [List.map_toArray, List.map_cons, List.map_nil]); first | done | rfl | (simp only [List.length_drop, List.length_take]; rfl)) ?_; (with_reducible refine (disk_Stretch.calls _ _ l0_0 _ _ l0_1 a0_2 a1 a2 t196 t197 _ ?side1 ?side2 ?side3 ?side4 A49.out).mono ?_); (case side1 => repeat (first | exact (Kd.C_below HR0_0.out HB.out) | (with_reducible refine Kd.C_alloc ?_ _) | (with_reducible refine Kd.C_drewN ?_ _) | (with_reducible refine Kd.C_drew ?_))); (case side2 => exact HC0_0.out); (case side3 => repeat (first | exact (Kd.C_below HR0_1.out HB.out) | (with_reducible refine Kd.C_alloc ?_ _) | (with_reducible refine Kd.C_drewN ?_ _) | (with_reducible refine Kd.C_drew ?_))); (case side4 => exact HC0_1.out); rintro e w141 ⟨rfl, hb⟩; refine ⟨_, rfl, ?_⟩; have n0_ := Aside0.mk (Kd.R_below (by (with_reducible repeat (first | apply Kd.R_alloc | apply Kd.R_drewN | apply Kd.R_drew)); exact HO_180000.out) hb); have n1_ := Aside0.mk (Kd.R_below (by (with_reducible repeat (first | apply Kd.R_alloc | apply Kd.R_drewN | apply Kd.R_drew)); exact HO_180001.out) hb); have n2_ := Aside0.mk (Kd.R_below (by (with_reducible repeat (first | apply Kd.R_alloc | apply Kd.R_drewN | apply Kd.R_drew)); exact HO_189000.out) hb); have n3_ := Aside0.mk (Kd.R_below (by (with_reducible repeat (first | apply Kd.R_alloc | apply Kd.R_drewN | apply Kd.R_drew)); exact HO_189001.out) hb); have n4_ := Aside0.mk (blk_below (g := gb169) (o := .cells #[.slice A0_0 l0_0.length c0_0, .slice A0_1 l0_1.length c0_1, .bool a0_2] 25 (0, 0)) (by (with_reducible repeat (first | refine blk_drewN ?_ _ | refine blk_drew ?_ | refine blk_alloc ?_ _)); exact BK169.out) hb); have n5_ := Aside0.mk (blk_below (g := gb179) (o := .cells #[.slice Ao23 t171.length co23, .slice Ao26 t174.length co26, .bool t177] 25 (0, 0)) (by (with_reducible repeat (first | refine blk_drewN ?_ _ | refine blk_drew ?_ | refine blk_alloc ?_ _)); exact BK179.out) hb); have n6_ := Aside0.mk (blk_below (g := gb188) (o := .cells #[.slice Ao29 t180.length co29, .slice Ao33 t183.length co33, .bool t186] 25 (0, 0)) (by (with_reducible repeat (first | refine blk_drewN ?_ _ | refine blk_drew ?_ | refine blk_alloc ?_ _)); exact BK188.out) hb); have n7_ := Aside0.mk (below_step (by repeat (first | (with_reducible first | exact HB.out | apply below_alloc | apply pw_below_drewN | apply below_drew1 | refine below_set ?_ GE169.out | refine below_set ?_ GE179.out | refine below_set ?_ GE188.out) | exact HB.out)) hb); clear HO_180000; clear HO_180001; clear HO_189000; clear HO_189001; clear BK169; clear BK179; clear BK188; clear HB; have HO_180000 := n0_; have HO_180001 := n1_; have HO_189000 := n2_; have HO_189001 := n3_; have BK169 := n4_; have BK179 := n5_; have BK188 := n6_; have HB := n7_; clear n0_ n1_ n2_ n3_ n4_ n5_ n6_ n7_; (try clear hb); (try clear hb2); (try clear hk); (try clear hi); have hcz142_0 : w141.cell? ⟨gb169, 0, none⟩ = some (.slice A0_0 l0_0.length c0_0) := (blk_cell BK169.out 0).trans rfl; have hcz142_1 : w141.cell? ⟨gb169, 1, none⟩ = some (.slice A0_1 l0_1.length c0_1) := (blk_cell BK169.out 1).trans rfl; have hcz142_2 : w141.cell? ⟨gb169, 2, none⟩ = some (.bool a0_2) := (blk_cell BK169.out 2).trans rfl; have hfz142_0 := blk_frozen BK169.out 0; have hfz142_1 := blk_frozen BK169.out 1; have hfz142_2 := blk_frozen BK169.out 2) | ((with_reducible refine gate_callee (f := 27) rfl ?_); refine goesL_ (some 97) rfl rfl Try.func27 (by kernel_rfl) rfl #[.agg #[.slice A0_0 l0_0.length c0_0, .slice A0_1 l0_1.length c0_1, .bool a0_2], .int .i64 a1, .int .i64 a2] rfl (by (try simp only [List.map_toArray, List.map_cons, List.map_nil]); first | done | rfl | (simp only [List.length_drop, List.length_take]; rfl)) ?_; (with_reducible refine (copyholdref04_Stretch.calls kj19 _ _ l0_0 _ _ l0_1 a0_2 a1 a2 t198 t199 _ ?side1 ?side2 ?side3 ?side4 A50.out).mono ?_); (case side1 => repeat (first | exact (Kd.C_below HR0_0.out HB.out) | (with_reducible refine Kd.C_alloc ?_ _) | (with_reducible refine Kd.C_drewN ?_ _) | (with_reducible refine Kd.C_drew ?_))); (case side2 => exact HC0_0.out); (case side3 => repeat (first | exact (Kd.C_below HR0_1.out HB.out) | (with_reducible refine Kd.C_alloc ?_ _) | (with_reducible refine Kd.C_drewN ?_ _) | (with_reducible refine Kd.C_drew ?_))); (case side4 => exact HC0_1.out); rintro e w143 ⟨rfl, hb⟩; refine ⟨_, rfl, ?_⟩; have n0_ := Aside0.mk (Kd.R_below (by (with_reducible repeat (first | apply Kd.R_alloc | apply Kd.R_drewN | apply Kd.R_drew)); exact HO_180000.out) hb); have n1_ := Aside0.mk (Kd.R_below (by (with_reducible repeat (first | apply Kd.R_alloc | apply Kd.R_drewN | apply Kd.R_drew)); exact HO_180001.out) hb); have n2_ := Aside0.mk (Kd.R_below (by (with_reducible repeat (first | apply Kd.R_alloc | apply Kd.R_drewN | apply Kd.R_drew)); exact HO_189000.out) hb); have n3_ := Aside0.mk (Kd.R_below (by (with_reducible repeat (first | apply Kd.R_alloc | apply Kd.R_drewN | apply Kd.R_drew)); exact HO_189001.out) hb); have n4_ := Aside0.mk (blk_below (g := gb169) (o := .cells #[.slice A0_0 l0_0.length c0_0, .slice A0_1 l0_1.length c0_1, .bool a0_2] 25 (0, 0)) (by (with_reducible repeat (first | refine blk_drewN ?_ _ | refine blk_drew ?_ | refine blk_alloc ?_ _)); exact BK169.out) hb); have n5_ := Aside0.mk (blk_below (g := gb179) (o := .cells #[.slice Ao23 t171.length co23, .slice Ao26 t174.length co26, .bool t177] 25 (0, 0)) (by (with_reducible repeat (first | refine blk_drewN ?_ _ | refine blk_drew ?_ | refine blk_alloc ?_ _)); exact BK179.out) hb); have n6_ := Aside0.mk (blk_below (g := gb188) (o := .cells #[.slice Ao29 t180.length co29, .slice Ao33 t183.length co33, .bool t186] 25 (0, 0)) (by (with_reducible repeat (first | refine blk_drewN ?_ _ | refine blk_drew ?_ | refine blk_alloc ?_ _)); exact BK188.out) hb); have n7_ := Aside0.mk (below_step (by repeat (first | (with_reducible first | exact HB.out | apply below_alloc | apply pw_below_drewN | apply below_drew1 | refine below_set ?_ GE169.out | refine below_set ?_ GE179.out | refine below_set ?_ GE188.out) | exact HB.out)) hb); clear HO_180000; clear HO_180001; clear HO_189000; clear HO_189001; clear BK169; clear BK179; clear BK188; clear HB; have HO_180000 := n0_; have HO_180001 := n1_; have HO_189000 := n2_; have HO_189001 := n3_; have BK169 := n4_; have BK179 := n5_; have BK188 := n6_; have HB := n7_; clear n0_ n1_ n2_ n3_ n4_ n5_ n6_ n7_; (try clear hb); (try clear hb2); (try clear hk); (try clear hi)))
                  have n0_ := Aside0.mk (Kd.R_drew HO_180000.out)
                  have n1_ := Aside0.mk (Kd.R_drew HO_180001.out)
                  have n2_ := Aside0.mk (Kd.R_drew HO_189000.out)
                  have n3_ := Aside0.mk (Kd.R_drew HO_189001.out)
                  have n4_ := Aside0.mk (blk_drew BK169.out)
                  have n5_ := Aside0.mk (blk_drew BK179.out)
                  have n6_ := Aside0.mk (blk_drew BK188.out)
                  have n7_ := Aside0.mk (below_drew1 HB.out)
                  clear HO_180000
                  clear HO_180001
                  clear HO_189000
                  clear HO_189001
                  clear BK169
                  clear BK179
                  clear BK188
                  clear HB
                  have HO_180000 := n0_
                  have HO_180001 := n1_
                  have HO_189000 := n2_
                  have HO_189001 := n3_
                  have BK169 := n4_
                  have BK179 := n5_
                  have BK188 := n6_
                  have HB := n7_
                  clear n0_ n1_ n2_ n3_ n4_ n5_ n6_ n7_
                  refine start_ (n := 6) (S := fun w' => w'.cell? ⟨gb169, 0, none⟩ = some (.slice A0_0 l0_0.length c0_0) ∧ w'.cell? ⟨gb169, 1, none⟩ = some (.slice A0_1 l0_1.length c0_1) ∧ w'.cell? ⟨gb169, 2, none⟩ = some (.bool a0_2)) (ds := []) #[false, false, false, false, false, false] (by kernel_rfl) rfl rfl ⟨(blk_cell BK169.out 0).trans rfl, (blk_cell BK169.out 1).trans rfl, (blk_cell BK169.out 2).trans rfl⟩ (fun hHeld => ?_)
                  generalize w143.drew = w144 at HO_180000 HO_180001 HO_189000 HO_189001 BK169 BK179 BK188 HB hHeld ⊢
                  refine take_ (i := 0) (N := some 100) (v := ?_) (a' := ?_) #[true, false, false, false, false, false] rfl rfl (by kernel_rfl) (fun _ _ _ h => h) (Or.inl ⟨by rfl, ?_⟩) hHeld ?_ ?_
                  rotate_left
                  · rintro w' ⟨s0, s1, s2⟩
                    go_simp
                    with_reducible rfl
                  rotate_left
                  · simp only [Act.put, List.setIfInBounds_toArray, List.set_cons_zero, List.set_cons_succ, i64_w, i32_w]
                    rfl
                  refine take_ (i := 2) (N := some 102) (v := ?_) (a' := ?_) #[true, false, true, false, false, false] rfl rfl (by kernel_rfl) (fun _ _ _ h => h) (Or.inl ⟨by rfl, ?_⟩) hHeld ?_ ?_
                  rotate_left
                  · rintro w' ⟨s0, s1, s2⟩
                    go_simp
                    with_reducible rfl
                  rotate_left
                  · simp only [Act.put, List.setIfInBounds_toArray, List.set_cons_zero, List.set_cons_succ, i64_w, i32_w]
                    rfl
                  refine one_ (i := 1) (N := some 101) #[true, true, true, false, false, false] rfl rfl (by kernel_rfl) (by decide) (fun K hK => ?_)
                  refine goes_ Try.func19 (by kernel_rfl) rfl #[.agg #[.slice A0_0 l0_0.length c0_0, .slice A0_1 l0_1.length c0_1, .bool a0_2]] (by rfl) rfl rfl (by (try simp only [List.map_toArray, List.map_cons, List.map_nil]); first | done | rfl | (simp only [List.length_drop, List.length_take]; rfl)) ?_
                  with_reducible refine (disk_Image.calls _ _ l0_0 _ _ l0_1 a0_2 t200 _ ?side1 ?side2 ?side3 ?side4 A51.out).mono ?_
                  (case side1 => repeat (first | exact (Kd.C_below HR0_0.out HB.out) | (with_reducible refine Kd.C_alloc ?_ _) | (with_reducible refine Kd.C_drewN ?_ _) | (with_reducible refine Kd.C_drew ?_)))
                  (case side2 => exact HC0_0.out)
                  (case side3 => repeat (first | exact (Kd.C_below HR0_1.out HB.out) | (with_reducible refine Kd.C_alloc ?_ _) | (with_reducible refine Kd.C_drewN ?_ _) | (with_reducible refine Kd.C_drew ?_)))
                  (case side4 => exact HC0_1.out)
                  rintro e w145 ⟨v201, rfl, ho0, hb⟩
                  refine ⟨_, rfl, ?_⟩
                  have n0_ := Aside0.mk (Kd.R_elder' (by (with_reducible repeat (first | apply Kd.R_alloc | apply Kd.R_drewN | apply Kd.R_drew)); exact HO_180000.out) (Kd.R_base ho0) hb)
                  have n1_ := Aside0.mk (Kd.R_below (by (with_reducible repeat (first | apply Kd.R_alloc | apply Kd.R_drewN | apply Kd.R_drew)); exact HO_180001.out) hb)
                  have n2_ := Aside0.mk (Kd.R_elder' (by (with_reducible repeat (first | apply Kd.R_alloc | apply Kd.R_drewN | apply Kd.R_drew)); exact HO_189000.out) (Kd.R_base ho0) hb)
                  have n3_ := Aside0.mk (Kd.R_below (by (with_reducible repeat (first | apply Kd.R_alloc | apply Kd.R_drewN | apply Kd.R_drew)); exact HO_189001.out) hb)
                  have n4_ := Aside0.mk (Kd.R_lower (Kd.R_new' (Kd.R_new' ho0 (Kd.R_lt (by (with_reducible repeat (first | apply Kd.R_alloc | apply Kd.R_drewN | apply Kd.R_drew)); exact HO_180000.out))) (Kd.R_lt (by (with_reducible repeat (first | apply Kd.R_alloc | apply Kd.R_drewN | apply Kd.R_drew)); exact HO_189000.out))) (below_size (by repeat (first | (with_reducible first | exact HB.out | apply below_alloc | apply pw_below_drewN | apply below_drew1 | refine below_set ?_ GE169.out | refine below_set ?_ GE179.out | refine below_set ?_ GE188.out) | exact HB.out))))
                  have n5_ := Aside0.mk (blk_below (g := gb169) (o := .cells #[.slice A0_0 l0_0.length c0_0, .slice A0_1 l0_1.length c0_1, .bool a0_2] 25 (0, 0)) (by (with_reducible repeat (first | refine blk_drewN ?_ _ | refine blk_drew ?_ | refine blk_alloc ?_ _)); exact BK169.out) hb)
                  have n6_ := Aside0.mk (blk_below (g := gb179) (o := .cells #[.slice Ao23 t171.length co23, .slice Ao26 t174.length co26, .bool t177] 25 (0, 0)) (by (with_reducible repeat (first | refine blk_drewN ?_ _ | refine blk_drew ?_ | refine blk_alloc ?_ _)); exact BK179.out) hb)
                  have n7_ := Aside0.mk (blk_below (g := gb188) (o := .cells #[.slice Ao29 t180.length co29, .slice Ao33 t183.length co33, .bool t186] 25 (0, 0)) (by (with_reducible repeat (first | refine blk_drewN ?_ _ | refine blk_drew ?_ | refine blk_alloc ?_ _)); exact BK188.out) hb)
                  have n8_ := Aside0.mk (below_step (by repeat (first | (with_reducible first | exact HB.out | apply below_alloc | apply pw_below_drewN | apply below_drew1 | refine below_set ?_ GE169.out | refine below_set ?_ GE179.out | refine below_set ?_ GE188.out) | exact HB.out)) hb)
                  clear HO_180000
                  clear HO_180001
                  clear HO_189000
                  clear HO_189001
                  clear BK169
                  clear BK179
                  clear BK188
                  clear HB
                  have HO_180000 := n0_
                  have HO_180001 := n1_
                  have HO_189000 := n2_
                  have HO_189001 := n3_
                  have HO202 := n4_
                  have BK169 := n5_
                  have BK179 := n6_
                  have BK188 := n7_
                  have HB := n8_
                  clear n0_ n1_ n2_ n3_ n4_ n5_ n6_ n7_ n8_
                  (try clear hb)
                  (try clear hb2)
                  (try clear hk)
                  (try clear hi)
                  (try clear ho0)
                  refine hK.out _ _ ⟨(blk_cell BK169.out 0).trans rfl, (blk_cell BK169.out 1).trans rfl, (blk_cell BK169.out 2).trans rfl⟩ (fun hHeld => ?_)
                  clear hK K
                  refine norm_ (a' := ?_) ?_ ?_
                  rotate_left
                  · show Act.put _ (some 101) _ = _
                    simp only [Act.put, List.setIfInBounds_toArray, List.set_cons_zero, List.set_cons_succ, i64_w, i32_w]
                    rfl
                  refine one_ (i := 3) (N := some 103) #[true, true, true, true, false, false] rfl rfl (by kernel_rfl) (by decide) (fun K hK => ?_)
                  refine goes_ Try.func28 (by kernel_rfl) rfl #[.agg #[.slice A0_0 l0_0.length c0_0, .slice A0_1 l0_1.length c0_1, .bool a0_2]] (by rfl) rfl rfl (by (try simp only [List.map_toArray, List.map_cons, List.map_nil]); first | done | rfl | (simp only [List.length_drop, List.length_take]; rfl)) ?_
                  with_reducible refine (copyholdref04_Image.calls kj19 _ _ l0_0 _ _ l0_1 a0_2 t203 _ ?side1 ?side2 ?side3 ?side4 A52.out).mono ?_
                  (case side1 => repeat (first | exact (Kd.C_below HR0_0.out HB.out) | (with_reducible refine Kd.C_alloc ?_ _) | (with_reducible refine Kd.C_drewN ?_ _) | (with_reducible refine Kd.C_drew ?_)))
                  (case side2 => exact HC0_0.out)
                  (case side3 => repeat (first | exact (Kd.C_below HR0_1.out HB.out) | (with_reducible refine Kd.C_alloc ?_ _) | (with_reducible refine Kd.C_drewN ?_ _) | (with_reducible refine Kd.C_drew ?_)))
                  (case side4 => exact HC0_1.out)
                  rintro e w146 ⟨v204, rfl, ho0, hb⟩
                  refine ⟨_, rfl, ?_⟩
                  have n0_ := Aside0.mk (Kd.R_elder' (by (with_reducible repeat (first | apply Kd.R_alloc | apply Kd.R_drewN | apply Kd.R_drew)); exact HO_180000.out) (Kd.R_base ho0) hb)
                  have n1_ := Aside0.mk (Kd.R_below (by (with_reducible repeat (first | apply Kd.R_alloc | apply Kd.R_drewN | apply Kd.R_drew)); exact HO_180001.out) hb)
                  have n2_ := Aside0.mk (Kd.R_elder' (by (with_reducible repeat (first | apply Kd.R_alloc | apply Kd.R_drewN | apply Kd.R_drew)); exact HO_189000.out) (Kd.R_base ho0) hb)
                  have n3_ := Aside0.mk (Kd.R_below (by (with_reducible repeat (first | apply Kd.R_alloc | apply Kd.R_drewN | apply Kd.R_drew)); exact HO_189001.out) hb)
                  have n4_ := Aside0.mk (Kd.R_elder' (by (with_reducible repeat (first | apply Kd.R_alloc | apply Kd.R_drewN | apply Kd.R_drew)); exact HO202.out) (Kd.R_base ho0) hb)
                  have n5_ := Aside0.mk (Kd.R_lower (Kd.R_new' (Kd.R_new' (Kd.R_new' ho0 (Kd.R_lt (by (with_reducible repeat (first | apply Kd.R_alloc | apply Kd.R_drewN | apply Kd.R_drew)); exact HO_180000.out))) (Kd.R_lt (by (with_reducible repeat (first | apply Kd.R_alloc | apply Kd.R_drewN | apply Kd.R_drew)); exact HO_189000.out))) (Kd.R_lt (by (with_reducible repeat (first | apply Kd.R_alloc | apply Kd.R_drewN | apply Kd.R_drew)); exact HO202.out))) (below_size (by repeat (first | (with_reducible first | exact HB.out | apply below_alloc | apply pw_below_drewN | apply below_drew1 | refine below_set ?_ GE169.out | refine below_set ?_ GE179.out | refine below_set ?_ GE188.out) | exact HB.out))))
                  have n6_ := Aside0.mk (blk_below (g := gb169) (o := .cells #[.slice A0_0 l0_0.length c0_0, .slice A0_1 l0_1.length c0_1, .bool a0_2] 25 (0, 0)) (by (with_reducible repeat (first | refine blk_drewN ?_ _ | refine blk_drew ?_ | refine blk_alloc ?_ _)); exact BK169.out) hb)
                  have n7_ := Aside0.mk (blk_below (g := gb179) (o := .cells #[.slice Ao23 t171.length co23, .slice Ao26 t174.length co26, .bool t177] 25 (0, 0)) (by (with_reducible repeat (first | refine blk_drewN ?_ _ | refine blk_drew ?_ | refine blk_alloc ?_ _)); exact BK179.out) hb)
                  have n8_ := Aside0.mk (blk_below (g := gb188) (o := .cells #[.slice Ao29 t180.length co29, .slice Ao33 t183.length co33, .bool t186] 25 (0, 0)) (by (with_reducible repeat (first | refine blk_drewN ?_ _ | refine blk_drew ?_ | refine blk_alloc ?_ _)); exact BK188.out) hb)
                  have n9_ := Aside0.mk (below_step (by repeat (first | (with_reducible first | exact HB.out | apply below_alloc | apply pw_below_drewN | apply below_drew1 | refine below_set ?_ GE169.out | refine below_set ?_ GE179.out | refine below_set ?_ GE188.out) | exact HB.out)) hb)
                  clear HO_180000
                  clear HO_180001
                  clear HO_189000
                  clear HO_189001
                  clear HO202
                  clear BK169
                  clear BK179
                  clear BK188
                  clear HB
                  have HO_180000 := n0_
                  have HO_180001 := n1_
                  have HO_189000 := n2_
                  have HO_189001 := n3_
                  have HO202 := n4_
                  have HO205 := n5_
                  have BK169 := n6_
                  have BK179 := n7_
                  have BK188 := n8_
                  have HB := n9_
                  clear n0_ n1_ n2_ n3_ n4_ n5_ n6_ n7_ n8_ n9_
                  (try clear hb)
                  (try clear hb2)
                  (try clear hk)
                  (try clear hi)
                  (try clear ho0)
                  obtain ⟨Ao147, co147, eo147⟩ := Kd.R_slice HO202.out
                  (first | subst eo147 | (injection eo147 with f1_ f2_ f3_; have f4_ := f1_.symm; have f5_ := f3_.symm; clear f1_ f2_ f3_; subst f4_; subst f5_))
                  obtain ⟨Ao148, co148, eo148⟩ := Kd.R_slice HO205.out
                  (first | subst eo148 | (injection eo148 with f1_ f2_ f3_; have f4_ := f1_.symm; have f5_ := f3_.symm; clear f1_ f2_ f3_; subst f4_; subst f5_))
                  refine hK.out _ _ ⟨(blk_cell BK169.out 0).trans rfl, (blk_cell BK169.out 1).trans rfl, (blk_cell BK169.out 2).trans rfl⟩ (fun hHeld => ?_)
                  clear hK K
                  refine norm_ (a' := ?_) ?_ ?_
                  rotate_left
                  · show Act.put _ (some 103) _ = _
                    simp only [Act.put, List.setIfInBounds_toArray, List.set_cons_zero, List.set_cons_succ, i64_w, i32_w]
                    rfl
                  refine one_ (i := 4) (N := some 104) #[true, true, true, true, true, false] rfl rfl (by kernel_rfl) (by decide) (fun K hK => ?_)
                  refine goes_ Try.func18 (by kernel_rfl) rfl #[.slice Ao147 t200.length co147, .slice Ao148 t203.length co148] (by rfl) rfl rfl (by (try simp only [List.map_toArray, List.map_cons, List.map_nil]); first | done | rfl | (simp only [List.length_drop, List.length_take]; rfl)) ?_
                  with_reducible refine (copyholdref01_Strings.calls kj19 _ _ t200 _ _ t203 t206 _ ?side1 ?side2 ?side3 ?side4 A53.out).mono ?_
                  (case side1 => repeat (first | exact (Kd.R_reads' HO202.out).2.2 | (with_reducible refine Kd.C_alloc ?_ _) | (with_reducible refine Kd.C_drewN ?_ _) | (with_reducible refine Kd.C_drew ?_)))
                  (case side2 => exact (Kd.R_reads' HO202.out).2.1)
                  (case side3 => repeat (first | exact (Kd.R_reads' HO205.out).2.2 | (with_reducible refine Kd.C_alloc ?_ _) | (with_reducible refine Kd.C_drewN ?_ _) | (with_reducible refine Kd.C_drew ?_)))
                  (case side4 => exact (Kd.R_reads' HO205.out).2.1)
                  rintro e w' ⟨rfl, ⟨nd, rfl⟩⟩
                  refine ⟨_, rfl, ?_⟩
                  refine hK.out _ _ ⟨(blk_cell BK169.out 0).trans rfl, (blk_cell BK169.out 1).trans rfl, (blk_cell BK169.out 2).trans rfl⟩ (fun hHeld => ?_)
                  clear hK K
                  refine norm_ (a' := ?_) ?_ ?_
                  rotate_left
                  · show Act.put _ (some 104) _ = _
                    simp only [Act.put, List.setIfInBounds_toArray, List.set_cons_zero, List.set_cons_succ, i64_w, i32_w]
                    rfl
                  refine pure_ (i := 5) (N := some 22) (v := ?_) (a' := ?_) #[true, true, true, true, true, true] rfl rfl (by kernel_rfl) (fun _ _ _ h => h) (Or.inl ⟨by rfl, ?_⟩) ?_ ?_
                  rotate_left
                  · intro w'
                    go_simp
                    with_reducible rfl
                  rotate_left
                  · simp only [Act.put, List.setIfInBounds_toArray, List.set_cons_zero, List.set_cons_succ, i64_w, i32_w]
                    rfl
                  refine done_ (by kernel_rfl) ?_
                  try go_wp2
                  go_ret
                  exact ⟨by first | rfl | (simp [errW_none, errW_some] <;> rfl) | (simp [*, errW_none, errW_some] <;> rfl), by repeat (first | (with_reducible first | exact HB.out | apply below_alloc | apply pw_below_drewN | apply below_drew1 | refine below_set ?_ GE169.out | refine below_set ?_ GE179.out | refine below_set ?_ GE188.out) | exact HB.out)⟩
              · replace c46 := Bool.eq_false_iff.mpr c46
                subst c46
                have H1 : (some t170) = some r := by rw [if_neg (show ¬ (false = true) by decide)] at H; exact H
                clear H
                have H := H1
                clear H1
                obtain rfl := Option.some.inj H
                go_wp2
                go_ret
                exact ⟨by first | rfl | (simp [errW_none, errW_some] <;> rfl) | (simp [*, errW_none, errW_some] <;> rfl), by repeat (first | (with_reducible first | exact HB.out | apply below_alloc | apply pw_below_drewN | apply below_drew1 | refine below_set ?_ GE169.out | refine below_set ?_ GE179.out | refine below_set ?_ GE188.out) | exact HB.out)⟩

end Go.Proofs.Ytoknncbdfdgfjaa.Q
