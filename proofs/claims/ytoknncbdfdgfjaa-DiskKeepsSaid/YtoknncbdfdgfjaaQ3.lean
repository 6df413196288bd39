/- The machine's side of laws of this seat: Go functions as Lean functions, and the proof that a call of each comes to what its function says (written by a program of this session, px.py, that runs the kit's print). -/
import Derived.Test.YtoknncbdfdgfjaaDiskF
import Derived.Test.YtoknncbdfdgfjaaQ0
import Derived.Test.YtoknncbdfdgfjaaQ2
namespace Go.Proofs.Ytoknncbdfdgfjaa.Q
open Go.RowKit Go.Proofs.YtoknncbdfdgfjaaW.PrintWords Go.Proofs.YtoknncbdfdgfjaaW.PrintLast Go.Proofs.YtoknncbdfdgfjaaW.PrintMore
attribute [local go_sem] max2_int min2_int max_two min_two max_three min_three max_four min_four   -- for this text's walks alone
attribute [local go_sem high] Go.Proofs.Ytoknncbdfdgfjaa.px_xor_u8 Go.Proofs.Ytoknncbdfdgfjaa.px_xor_u16 Go.Proofs.Ytoknncbdfdgfjaa.px_xor_u32 Go.Proofs.Ytoknncbdfdgfjaa.px_xor_u64
set_option linter.unusedVariables false
set_option linter.unusedSimpArgs false

/-! ### copyholdlaw04_DiskSectors: function 3 -/
mutual
def copyholdlaw04_DiskSectors.j0 : Nat → List Bool → Int → Bool → Bool → List ByteArray → List (S31) → Bool → Option (Bool)
  | 0, _, _, _, _, _, _, _ => none
  | k + 1, x1, x2, x7, x27, x109000, x109001, x109002 => if x27 = true then (some x7) else ((disk_Crash.f x109000 x109001 x109002 x1).bind fun bt111 => (if (bt111.1.length : Int) = (x109000.length : Int) then (if (bt111.2.1.length : Int) > 0 then (copyholdlaw04_DiskSectors.j1 k x2 x7 true x109000 x109001 x109002 bt111.1 bt111.2.1 bt111.2.2) else (copyholdlaw04_DiskSectors.j1 k x2 x7 bt111.2.2 x109000 x109001 x109002 bt111.1 bt111.2.1 bt111.2.2)) else (copyholdlaw04_DiskSectors.j1 k x2 x7 true x109000 x109001 x109002 bt111.1 bt111.2.1 bt111.2.2)))
def copyholdlaw04_DiskSectors.j1 : Nat → Int → Bool → Bool → List ByteArray → List (S31) → Bool → List ByteArray → List (S31) → Bool → Option (Bool)
  | 0, _, _, _, _, _, _, _, _, _ => none
  | k + 1, x2, x7, x48, x109000, x109001, x109002, x119000, x119001, x119002 => if x48 = true then (some false) else (if 0 ≤ x2 then (if x2 < (x119000.length : Int) then (if x2 < (x109000.length : Int) then (copyholdlaw04_DiskSectors.l0 k x2 x7 ((rdOf ByteArray.empty x119000 x2).toList == (rdOf ByteArray.empty x109000 x2).toList) 0 x109000 x109001 x109002 x119000 x119001 x119002) else (none)) else (none)) else (none))
def copyholdlaw04_DiskSectors.l0 : Nat → Int → Bool → Bool → Int → List ByteArray → List (S31) → Bool → List ByteArray → List (S31) → Bool → Option (Bool)
  | 0, _, _, _, _, _, _, _, _, _, _ => none
  | k + 1, x2, x7, x10, x11, x109000, x109001, x109002, x119000, x119001, x119002 => if x11 < (x109001.length : Int) then (if x10 = true then (copyholdlaw04_DiskSectors.l0 k x2 x7 true (wrap64 (x11 + 1)) x109000 x109001 x109002 x119000 x119001 x119002) else (if 0 ≤ x11 then (if ((rd_T31 x109001 x11).f0) = x2 then (if 0 ≤ x2 then (if x2 < (x119000.length : Int) then (copyholdlaw04_DiskSectors.l0 k x2 x7 (((rd_T31 x109001 x11).f1).toList == (rdOf ByteArray.empty x119000 x2).toList) (wrap64 (x11 + 1)) x109000 x109001 x109002 x119000 x119001 x119002) else (none)) else (none)) else (copyholdlaw04_DiskSectors.l0 k x2 x7 false (wrap64 (x11 + 1)) x109000 x109001 x109002 x119000 x119001 x119002)) else (none))) else (if x7 = true then (some x10) else (some false))
end
def copyholdlaw04_DiskSectors.f (k : Nat) (l0_0 : List ByteArray) (l0_1 : List (S31)) (a0_2 : Bool) (l1 : List Bool) (a2 : Int) : Option (Bool) := (copyholdlaw04_shown.f).bind fun t109 => ((copyholdlaw04_few.f k l0_0 l0_1 a0_2).bind fun t110 => (if t110 = true then (if a2 < 0 then (copyholdlaw04_DiskSectors.j0 k l1 a2 t109 true l0_0 l0_1 a0_2) else (copyholdlaw04_DiskSectors.j0 k l1 a2 t109 (decide (a2 ≥ (l0_0.length : Int))) l0_0 l0_1 a0_2)) else (copyholdlaw04_DiskSectors.j0 k l1 a2 t109 true l0_0 l0_1 a0_2)))
theorem copyholdlaw04_DiskSectors.mono_l : ∀ k, (∀ y0 y1 y2 y3 y4 y5 y6, LeO (copyholdlaw04_DiskSectors.j0 k y0 y1 y2 y3 y4 y5 y6) (copyholdlaw04_DiskSectors.j0 (k + 1) y0 y1 y2 y3 y4 y5 y6)) ∧ (∀ y0 y1 y2 y3 y4 y5 y6 y7 y8, LeO (copyholdlaw04_DiskSectors.j1 k y0 y1 y2 y3 y4 y5 y6 y7 y8) (copyholdlaw04_DiskSectors.j1 (k + 1) y0 y1 y2 y3 y4 y5 y6 y7 y8)) ∧ (∀ y0 y1 y2 y3 y4 y5 y6 y7 y8 y9, LeO (copyholdlaw04_DiskSectors.l0 k y0 y1 y2 y3 y4 y5 y6 y7 y8 y9) (copyholdlaw04_DiskSectors.l0 (k + 1) y0 y1 y2 y3 y4 y5 y6 y7 y8 y9))
  | 0 => ⟨fun _ _ _ _ _ _ _ r h => by simp [copyholdlaw04_DiskSectors.j0] at h, fun _ _ _ _ _ _ _ _ _ r h => by simp [copyholdlaw04_DiskSectors.j1] at h, fun _ _ _ _ _ _ _ _ _ _ r h => by simp [copyholdlaw04_DiskSectors.l0] at h⟩
  | k + 1 => by
    obtain ⟨ih0, ih1, ih2⟩ := copyholdlaw04_DiskSectors.mono_l k
    refine ⟨?_, ?_, ?_⟩
    · intro y0 y1 y2 y3 y4 y5 y6
      unfold copyholdlaw04_DiskSectors.j0
      repeat' first
      | (with_reducible exact ih0 _ _ _ _ _ _ _)
      | (with_reducible exact ih1 _ _ _ _ _ _ _ _ _)
      | (with_reducible exact ih2 _ _ _ _ _ _ _ _ _ _)
      | (with_reducible exact copyholdlaw04_few.mono _ _ _ _)
      | (with_reducible exact LeO.refl _)
      | (with_reducible exact LeO.none _)
      | (with_reducible refine LeO.ite ?_ ?_)
      | (with_reducible refine LeO.bind ?_ (fun _ => ?_))
      | exact ih0 _ _ _ _ _ _ _
      | exact ih1 _ _ _ _ _ _ _ _ _
      | exact ih2 _ _ _ _ _ _ _ _ _ _
      | exact copyholdlaw04_few.mono _ _ _ _
      | exact LeO.none _
      | refine LeO.ite ?_ ?_
      | refine LeO.bind ?_ (fun _ => ?_)
    · intro y0 y1 y2 y3 y4 y5 y6 y7 y8
      unfold copyholdlaw04_DiskSectors.j1
      repeat' first
      | (with_reducible exact ih0 _ _ _ _ _ _ _)
      | (with_reducible exact ih1 _ _ _ _ _ _ _ _ _)
      | (with_reducible exact ih2 _ _ _ _ _ _ _ _ _ _)
      | (with_reducible exact copyholdlaw04_few.mono _ _ _ _)
      | (with_reducible exact LeO.refl _)
      | (with_reducible exact LeO.none _)
      | (with_reducible refine LeO.ite ?_ ?_)
      | (with_reducible refine LeO.bind ?_ (fun _ => ?_))
      | exact ih0 _ _ _ _ _ _ _
      | exact ih1 _ _ _ _ _ _ _ _ _
      | exact ih2 _ _ _ _ _ _ _ _ _ _
      | exact copyholdlaw04_few.mono _ _ _ _
      | exact LeO.none _
      | refine LeO.ite ?_ ?_
      | refine LeO.bind ?_ (fun _ => ?_)
    · intro y0 y1 y2 y3 y4 y5 y6 y7 y8 y9
      unfold copyholdlaw04_DiskSectors.l0
      repeat' first
      | (with_reducible exact ih0 _ _ _ _ _ _ _)
      | (with_reducible exact ih1 _ _ _ _ _ _ _ _ _)
      | (with_reducible exact ih2 _ _ _ _ _ _ _ _ _ _)
      | (with_reducible exact copyholdlaw04_few.mono _ _ _ _)
      | (with_reducible exact LeO.refl _)
      | (with_reducible exact LeO.none _)
      | (with_reducible refine LeO.ite ?_ ?_)
      | (with_reducible refine LeO.bind ?_ (fun _ => ?_))
      | exact ih0 _ _ _ _ _ _ _
      | exact ih1 _ _ _ _ _ _ _ _ _
      | exact ih2 _ _ _ _ _ _ _ _ _ _
      | exact copyholdlaw04_few.mono _ _ _ _
      | exact LeO.none _
      | refine LeO.ite ?_ ?_
      | refine LeO.bind ?_ (fun _ => ?_)
theorem copyholdlaw04_DiskSectors.mono : ∀ a0 a1 a2 a3 a4 k, LeO (copyholdlaw04_DiskSectors.f k a0 a1 a2 a3 a4) (copyholdlaw04_DiskSectors.f (k + 1) a0 a1 a2 a3 a4) := by
  intro a0 a1 a2 a3 a4 k
  obtain ⟨ih0, ih1, ih2⟩ := copyholdlaw04_DiskSectors.mono_l k
  unfold copyholdlaw04_DiskSectors.f
  repeat' first
      | (with_reducible exact ih0 _ _ _ _ _ _ _)
      | (with_reducible exact ih1 _ _ _ _ _ _ _ _ _)
      | (with_reducible exact ih2 _ _ _ _ _ _ _ _ _ _)
      | (with_reducible exact copyholdlaw04_few.mono _ _ _ _)
      | (with_reducible exact LeO.refl _)
      | (with_reducible exact LeO.none _)
      | (with_reducible refine LeO.ite ?_ ?_)
      | (with_reducible refine LeO.bind ?_ (fun _ => ?_))
      | exact ih0 _ _ _ _ _ _ _
      | exact ih1 _ _ _ _ _ _ _ _ _
      | exact ih2 _ _ _ _ _ _ _ _ _ _
      | exact copyholdlaw04_few.mono _ _ _ _
      | exact LeO.none _
      | refine LeO.ite ?_ ?_
      | refine LeO.bind ?_ (fun _ => ?_)
set_option maxHeartbeats 8000000 in
set_option maxRecDepth 100000 in
theorem copyholdlaw04_DiskSectors.calls (k : Nat) (A0_0 : Option Addr) (c0_0 : Nat) (l0_0 : List ByteArray) (A0_1 : Option Addr) (c0_1 : Nat) (l0_1 : List (S31)) (a0_2 : Bool) (A1 : Option Addr) (c1 : Nat) (l1 : List Bool) (a2 : Int) (r : Bool) (w : World) (hr0_0 : Kd.C Kd.string w A0_0 l0_0.length l0_0) (hc0_0 : l0_0.length ≤ c0_0) (hr0_1 : Kd.C k31 w A0_1 l0_1.length l0_1) (hc0_1 : l0_1.length ≤ c0_1) (hr1 : Kd.C Kd.bool w A1 l1.length l1) (hc1 : l1.length ≤ c1) (h : copyholdlaw04_DiskSectors.f k l0_0 l0_1 a0_2 l1 a2 = some r) :
    Calls Try.prog 3 #[.agg #[.slice A0_0 l0_0.length c0_0, .slice A0_1 l0_1.length c0_1, .bool a0_2], .slice A1 l1.length c1, .int .i64 a2] w fun e w' => e = .returned (.bool r) ∧ Below w.heap.size w w' := by
  have hu25 := Try.underlying25
  have HR0_0 := Aside0.mk hr0_0
  have HC0_0 := Aside0.mk hc0_0
  clear hr0_0 hc0_0
  have HR0_1 := Aside0.mk hr0_1
  have HC0_1 := Aside0.mk hc0_1
  clear hr0_1 hc0_1
  have HR1 := Aside0.mk hr1
  have HC1 := Aside0.mk hc1
  clear hr1 hc1
  have HB := Aside0.mk (Below.refl w.heap.size w)
  have H : ((copyholdlaw04_shown.f).bind fun t109 => ((copyholdlaw04_few.f k l0_0 l0_1 a0_2).bind fun t110 => (if t110 = true then (if a2 < 0 then (copyholdlaw04_DiskSectors.j0 k l1 a2 t109 true l0_0 l0_1 a0_2) else (copyholdlaw04_DiskSectors.j0 k l1 a2 t109 (decide (a2 ≥ (l0_0.length : Int))) l0_0 l0_1 a0_2)) else (copyholdlaw04_DiskSectors.j0 k l1 a2 t109 true l0_0 l0_1 a0_2)))) = some r := h
  clear h
  replace H := Option.bind_eq_some_iff.mp H
  obtain ⟨t109, A40, H⟩ := H
  replace H : ((copyholdlaw04_few.f k l0_0 l0_1 a0_2).bind fun t110 => (if t110 = true then (if a2 < 0 then (copyholdlaw04_DiskSectors.j0 k l1 a2 t109 true l0_0 l0_1 a0_2) else (copyholdlaw04_DiskSectors.j0 k l1 a2 t109 (decide (a2 ≥ (l0_0.length : Int))) l0_0 l0_1 a0_2)) else (copyholdlaw04_DiskSectors.j0 k l1 a2 t109 true l0_0 l0_1 a0_2))) = some r := H
  have A4 := Aside0.mk A40
  clear A40
  replace H := Option.bind_eq_some_iff.mp H
  obtain ⟨t110, A50, H⟩ := H
  replace H : (if t110 = true then (if a2 < 0 then (copyholdlaw04_DiskSectors.j0 k l1 a2 t109 true l0_0 l0_1 a0_2) else (copyholdlaw04_DiskSectors.j0 k l1 a2 t109 (decide (a2 ≥ (l0_0.length : Int))) l0_0 l0_1 a0_2)) else (copyholdlaw04_DiskSectors.j0 k l1 a2 t109 true l0_0 l0_1 a0_2)) = some r := H
  have A5 := Aside0.mk A50
  clear A50
  have HC6 := Aside0.mk H
  clear H
  go_enter Try.func3, Try.ntmps3
  go_upto_region 3 with (first | ((with_reducible refine gate_dst (N := 3) rfl ?_); (try (refine gate_guard (by rfl) ?_; dsimp only)); refine box_event ?hg (N := 3) ?hd (cs := #[.slice A0_0 l0_0.length c0_0, .slice A0_1 l0_1.length c0_1, .bool a0_2]) (t := 25) ?hr ?_; (case hd => rfl); (case hg => rfl); (case hr => first | (go_simp; done) | (go_simp; rfl)); intro gb108 hg w7 hbox hb; have n0_ := Aside0.mk (below_step (by repeat (first | (with_reducible first | exact HB.out | apply below_alloc | apply pw_below_drewN | apply below_drew1) | exact HB.out)) hb); have n1_ := Aside0.mk (hbox); have n2_ := Aside0.mk ((by rw [hg]; exact (below_size (by repeat (first | (with_reducible first | exact HB.out | apply below_alloc | apply pw_below_drewN | apply below_drew1) | exact HB.out))) : w.heap.size ≤ gb108)); have n3_ := Aside0.mk ((by rw [hg]; exact (below_size (by repeat (first | (with_reducible first | exact HB.out | apply below_alloc | apply pw_below_drewN | apply below_drew1) | exact HB.out))) : w.heap.size ≤ gb108)); clear HB; have HB := n0_; have BK108 := n1_; have GW108 := n2_; have GE108 := n3_; clear n0_ n1_ n2_ n3_; clear hb hbox hg) | (go_at_call 9; (with_reducible refine (copyholdlaw04_shown.calls  t109 _ A4.out).mono ?_); rintro e w8 ⟨rfl, hb⟩; have n0_ := Aside0.mk (blk_below (g := gb108) (o := .cells #[.slice A0_0 l0_0.length c0_0, .slice A0_1 l0_1.length c0_1, .bool a0_2] 25 (0, 0)) (by (with_reducible repeat (first | refine blk_drewN ?_ _ | refine blk_drew ?_ | refine blk_alloc ?_ _)); exact BK108.out) hb); have n1_ := Aside0.mk (below_step (by repeat (first | (with_reducible first | exact HB.out | apply below_alloc | apply pw_below_drewN | apply below_drew1 | refine below_set ?_ GE108.out) | exact HB.out)) hb); clear BK108; clear HB; have BK108 := n0_; have HB := n1_; clear n0_ n1_; (try clear hb); (try clear hb2); (try clear hk); (try clear hi); have hcz9_0 : w8.cell? ⟨gb108, 0, none⟩ = some (.slice A0_0 l0_0.length c0_0) := (blk_cell BK108.out 0).trans rfl; have hcz9_1 : w8.cell? ⟨gb108, 1, none⟩ = some (.slice A0_1 l0_1.length c0_1) := (blk_cell BK108.out 1).trans rfl; have hcz9_2 : w8.cell? ⟨gb108, 2, none⟩ = some (.bool a0_2) := (blk_cell BK108.out 2).trans rfl; have hfz9_0 := blk_frozen BK108.out 0; have hfz9_1 := blk_frozen BK108.out 1; have hfz9_2 := blk_frozen BK108.out 2) | (go_at_call 10; (with_reducible refine (copyholdlaw04_few.calls k _ _ l0_0 _ _ l0_1 a0_2 t110 _ ?side1 ?side2 ?side3 ?side4 A5.out).mono ?_); (case side1 => repeat (first | exact (Kd.C_below HR0_0.out HB.out) | (with_reducible refine Kd.C_alloc ?_ _) | (with_reducible refine Kd.C_drewN ?_ _) | (with_reducible refine Kd.C_drew ?_))); (case side2 => exact HC0_0.out); (case side3 => repeat (first | exact (Kd.C_below HR0_1.out HB.out) | (with_reducible refine Kd.C_alloc ?_ _) | (with_reducible refine Kd.C_drewN ?_ _) | (with_reducible refine Kd.C_drew ?_))); (case side4 => exact HC0_1.out); rintro e w10 ⟨rfl, hb⟩; have n0_ := Aside0.mk (blk_below (g := gb108) (o := .cells #[.slice A0_0 l0_0.length c0_0, .slice A0_1 l0_1.length c0_1, .bool a0_2] 25 (0, 0)) (by (with_reducible repeat (first | refine blk_drewN ?_ _ | refine blk_drew ?_ | refine blk_alloc ?_ _)); exact BK108.out) hb); have n1_ := Aside0.mk (below_step (by repeat (first | (with_reducible first | exact HB.out | apply below_alloc | apply pw_below_drewN | apply below_drew1 | refine below_set ?_ GE108.out) | exact HB.out)) hb); clear BK108; clear HB; have BK108 := n0_; have HB := n1_; clear n0_ n1_; (try clear hb); (try clear hb2); (try clear hk); (try clear hi)))
  repeat (go_quiet (first | ((with_reducible refine gate_dst (N := 3) rfl ?_); (try (refine gate_guard (by rfl) ?_; dsimp only)); refine box_event ?hg (N := 3) ?hd (cs := #[.slice A0_0 l0_0.length c0_0, .slice A0_1 l0_1.length c0_1, .bool a0_2]) (t := 25) ?hr ?_; (case hd => rfl); (case hg => rfl); (case hr => first | (go_simp; done) | (go_simp; rfl)); intro gb108 hg w7 hbox hb; have n0_ := Aside0.mk (below_step (by repeat (first | (with_reducible first | exact HB.out | apply below_alloc | apply pw_below_drewN | apply below_drew1) | exact HB.out)) hb); have n1_ := Aside0.mk (hbox); have n2_ := Aside0.mk ((by rw [hg]; exact (below_size (by repeat (first | (with_reducible first | exact HB.out | apply below_alloc | apply pw_below_drewN | apply below_drew1) | exact HB.out))) : w.heap.size ≤ gb108)); have n3_ := Aside0.mk ((by rw [hg]; exact (below_size (by repeat (first | (with_reducible first | exact HB.out | apply below_alloc | apply pw_below_drewN | apply below_drew1) | exact HB.out))) : w.heap.size ≤ gb108)); clear HB; have HB := n0_; have BK108 := n1_; have GW108 := n2_; have GE108 := n3_; clear n0_ n1_ n2_ n3_; clear hb hbox hg) | (go_at_call 9; (with_reducible refine (copyholdlaw04_shown.calls  t109 _ A4.out).mono ?_); rintro e w8 ⟨rfl, hb⟩; have n0_ := Aside0.mk (blk_below (g := gb108) (o := .cells #[.slice A0_0 l0_0.length c0_0, .slice A0_1 l0_1.length c0_1, .bool a0_2] 25 (0, 0)) (by (with_reducible repeat (first | refine blk_drewN ?_ _ | refine blk_drew ?_ | refine blk_alloc ?_ _)); exact BK108.out) hb); have n1_ := Aside0.mk (below_step (by repeat (first | (with_reducible first | exact HB.out | apply below_alloc | apply pw_below_drewN | apply below_drew1 | refine below_set ?_ GE108.out) | exact HB.out)) hb); clear BK108; clear HB; have BK108 := n0_; have HB := n1_; clear n0_ n1_; (try clear hb); (try clear hb2); (try clear hk); (try clear hi); have hcz9_0 : w8.cell? ⟨gb108, 0, none⟩ = some (.slice A0_0 l0_0.length c0_0) := (blk_cell BK108.out 0).trans rfl; have hcz9_1 : w8.cell? ⟨gb108, 1, none⟩ = some (.slice A0_1 l0_1.length c0_1) := (blk_cell BK108.out 1).trans rfl; have hcz9_2 : w8.cell? ⟨gb108, 2, none⟩ = some (.bool a0_2) := (blk_cell BK108.out 2).trans rfl; have hfz9_0 := blk_frozen BK108.out 0; have hfz9_1 := blk_frozen BK108.out 1; have hfz9_2 := blk_frozen BK108.out 2) | (go_at_call 10; (with_reducible refine (copyholdlaw04_few.calls k _ _ l0_0 _ _ l0_1 a0_2 t110 _ ?side1 ?side2 ?side3 ?side4 A5.out).mono ?_); (case side1 => repeat (first | exact (Kd.C_below HR0_0.out HB.out) | (with_reducible refine Kd.C_alloc ?_ _) | (with_reducible refine Kd.C_drewN ?_ _) | (with_reducible refine Kd.C_drew ?_))); (case side2 => exact HC0_0.out); (case side3 => repeat (first | exact (Kd.C_below HR0_1.out HB.out) | (with_reducible refine Kd.C_alloc ?_ _) | (with_reducible refine Kd.C_drewN ?_ _) | (with_reducible refine Kd.C_drew ?_))); (case side4 => exact HC0_1.out); rintro e w10 ⟨rfl, hb⟩; have n0_ := Aside0.mk (blk_below (g := gb108) (o := .cells #[.slice A0_0 l0_0.length c0_0, .slice A0_1 l0_1.length c0_1, .bool a0_2] 25 (0, 0)) (by (with_reducible repeat (first | refine blk_drewN ?_ _ | refine blk_drew ?_ | refine blk_alloc ?_ _)); exact BK108.out) hb); have n1_ := Aside0.mk (below_step (by repeat (first | (with_reducible first | exact HB.out | apply below_alloc | apply pw_below_drewN | apply below_drew1 | refine below_set ?_ GE108.out) | exact HB.out)) hb); clear BK108; clear HB; have BK108 := n0_; have HB := n1_; clear n0_ n1_; (try clear hb); (try clear hb2); (try clear hk); (try clear hi))); go_upto_region 3 with (first | ((with_reducible refine gate_dst (N := 3) rfl ?_); (try (refine gate_guard (by rfl) ?_; dsimp only)); refine box_event ?hg (N := 3) ?hd (cs := #[.slice A0_0 l0_0.length c0_0, .slice A0_1 l0_1.length c0_1, .bool a0_2]) (t := 25) ?hr ?_; (case hd => rfl); (case hg => rfl); (case hr => first | (go_simp; done) | (go_simp; rfl)); intro gb108 hg w7 hbox hb; have n0_ := Aside0.mk (below_step (by repeat (first | (with_reducible first | exact HB.out | apply below_alloc | apply pw_below_drewN | apply below_drew1) | exact HB.out)) hb); have n1_ := Aside0.mk (hbox); have n2_ := Aside0.mk ((by rw [hg]; exact (below_size (by repeat (first | (with_reducible first | exact HB.out | apply below_alloc | apply pw_below_drewN | apply below_drew1) | exact HB.out))) : w.heap.size ≤ gb108)); have n3_ := Aside0.mk ((by rw [hg]; exact (below_size (by repeat (first | (with_reducible first | exact HB.out | apply below_alloc | apply pw_below_drewN | apply below_drew1) | exact HB.out))) : w.heap.size ≤ gb108)); clear HB; have HB := n0_; have BK108 := n1_; have GW108 := n2_; have GE108 := n3_; clear n0_ n1_ n2_ n3_; clear hb hbox hg) | (go_at_call 9; (with_reducible refine (copyholdlaw04_shown.calls  t109 _ A4.out).mono ?_); rintro e w8 ⟨rfl, hb⟩; have n0_ := Aside0.mk (blk_below (g := gb108) (o := .cells #[.slice A0_0 l0_0.length c0_0, .slice A0_1 l0_1.length c0_1, .bool a0_2] 25 (0, 0)) (by (with_reducible repeat (first | refine blk_drewN ?_ _ | refine blk_drew ?_ | refine blk_alloc ?_ _)); exact BK108.out) hb); have n1_ := Aside0.mk (below_step (by repeat (first | (with_reducible first | exact HB.out | apply below_alloc | apply pw_below_drewN | apply below_drew1 | refine below_set ?_ GE108.out) | exact HB.out)) hb); clear BK108; clear HB; have BK108 := n0_; have HB := n1_; clear n0_ n1_; (try clear hb); (try clear hb2); (try clear hk); (try clear hi); have hcz9_0 : w8.cell? ⟨gb108, 0, none⟩ = some (.slice A0_0 l0_0.length c0_0) := (blk_cell BK108.out 0).trans rfl; have hcz9_1 : w8.cell? ⟨gb108, 1, none⟩ = some (.slice A0_1 l0_1.length c0_1) := (blk_cell BK108.out 1).trans rfl; have hcz9_2 : w8.cell? ⟨gb108, 2, none⟩ = some (.bool a0_2) := (blk_cell BK108.out 2).trans rfl; have hfz9_0 := blk_frozen BK108.out 0; have hfz9_1 := blk_frozen BK108.out 1; have hfz9_2 := blk_frozen BK108.out 2) | (go_at_call 10; (with_reducible refine (copyholdlaw04_few.calls k _ _ l0_0 _ _ l0_1 a0_2 t110 _ ?side1 ?side2 ?side3 ?side4 A5.out).mono ?_); (case side1 => repeat (first | exact (Kd.C_below HR0_0.out HB.out) | (with_reducible refine Kd.C_alloc ?_ _) | (with_reducible refine Kd.C_drewN ?_ _) | (with_reducible refine Kd.C_drew ?_))); (case side2 => exact HC0_0.out); (case side3 => repeat (first | exact (Kd.C_below HR0_1.out HB.out) | (with_reducible refine Kd.C_alloc ?_ _) | (with_reducible refine Kd.C_drewN ?_ _) | (with_reducible refine Kd.C_drew ?_))); (case side4 => exact HC0_1.out); rintro e w10 ⟨rfl, hb⟩; have n0_ := Aside0.mk (blk_below (g := gb108) (o := .cells #[.slice A0_0 l0_0.length c0_0, .slice A0_1 l0_1.length c0_1, .bool a0_2] 25 (0, 0)) (by (with_reducible repeat (first | refine blk_drewN ?_ _ | refine blk_drew ?_ | refine blk_alloc ?_ _)); exact BK108.out) hb); have n1_ := Aside0.mk (below_step (by repeat (first | (with_reducible first | exact HB.out | apply below_alloc | apply pw_below_drewN | apply below_drew1 | refine below_set ?_ GE108.out) | exact HB.out)) hb); clear BK108; clear HB; have BK108 := n0_; have HB := n1_; clear n0_ n1_; (try clear hb); (try clear hb2); (try clear hk); (try clear hi))))
  (try simp only [Act.put, List.setIfInBounds_toArray, List.set_cons_zero, List.set_cons_succ])
  go_cut [27] (fun v27 wc => ∃ (kq : Nat) (x27_5 : Bool), v27 = .bool x27_5 ∧ Aside0 (copyholdlaw04_DiskSectors.j0 kq l1 a2 t109 x27_5 l0_0 l0_1 a0_2 = some r) ∧ Aside0 (kq ≤ k) ∧ Aside0 (wc.heap[gb108]? = some (.cells #[(.slice A0_0 l0_0.length c0_0), (.slice A0_1 l0_1.length c0_1), .bool a0_2] 25 (0, 0))) ∧ Aside0 (Below w.heap.size w wc))
  case first =>
    have H := HC6.out
    clear HC6
    by_cases c11 : t110 = true
    · subst c11
      have H1 : (if a2 < 0 then (copyholdlaw04_DiskSectors.j0 k l1 a2 t109 true l0_0 l0_1 a0_2) else (copyholdlaw04_DiskSectors.j0 k l1 a2 t109 (decide (a2 ≥ (l0_0.length : Int))) l0_0 l0_1 a0_2)) = some r := by rw [if_pos rfl] at H; exact H
      clear H
      have H := H1
      clear H1
      by_cases c12 : a2 < 0
      · rw [if_pos c12] at H
        have c12b0 : decide (a2 < 0) = true := decide_eq_true c12
        clear c12
        (first | rw [c12b0] | (simp only [i64_w, i32_w]; rw [c12b0]) | skip)
        have H' := Aside0.mk H
        clear H
        go_wp2
        repeat (go_quiet (fail); try go_wp2)
        go_meet
        case rel => exact ⟨_, (true), (by first | rfl | (simp; done) | (simp [*]; done)), H', ⟨by first | omega | exact Nat.le_refl _⟩, ⟨by (with_reducible repeat (first | refine blk_drewN ?_ _ | refine blk_drew ?_ | refine blk_alloc ?_ _)); exact BK108.out⟩, ⟨by repeat (first | (with_reducible first | exact HB.out | apply below_alloc | apply pw_below_drewN | apply below_drew1 | refine below_set ?_ GE108.out) | exact HB.out)⟩⟩
      · rw [if_neg c12] at H
        have c12b0 : decide (a2 < 0) = false := decide_eq_false c12
        clear c12
        (first | rw [c12b0] | (simp only [i64_w, i32_w]; rw [c12b0]) | skip)
        have H' := Aside0.mk H
        clear H
        have hcz13_0 : w10.cell? ⟨gb108, 0, none⟩ = some (.slice A0_0 l0_0.length c0_0) := (blk_cell BK108.out 0).trans rfl
        have hcz13_1 : w10.cell? ⟨gb108, 1, none⟩ = some (.slice A0_1 l0_1.length c0_1) := (blk_cell BK108.out 1).trans rfl
        have hcz13_2 : w10.cell? ⟨gb108, 2, none⟩ = some (.bool a0_2) := (blk_cell BK108.out 2).trans rfl
        have hfz13_0 := blk_frozen BK108.out 0
        have hfz13_1 := blk_frozen BK108.out 1
        have hfz13_2 := blk_frozen BK108.out 2
        go_wp2
        repeat (go_quiet (fail); try go_wp2)
        go_meet
        case rel => exact ⟨_, (decide (a2 ≥ (l0_0.length : Int))), (by first | rfl | (simp; done) | (simp [*]; done)), H', ⟨by first | omega | exact Nat.le_refl _⟩, ⟨by (with_reducible repeat (first | refine blk_drewN ?_ _ | refine blk_drew ?_ | refine blk_alloc ?_ _)); exact BK108.out⟩, ⟨by repeat (first | (with_reducible first | exact HB.out | apply below_alloc | apply pw_below_drewN | apply below_drew1 | refine below_set ?_ GE108.out) | exact HB.out)⟩⟩
    · replace c11 := Bool.eq_false_iff.mpr c11
      subst c11
      have H1 : (copyholdlaw04_DiskSectors.j0 k l1 a2 t109 true l0_0 l0_1 a0_2) = some r := by rw [if_neg (show ¬ (false = true) by decide)] at H; exact H
      clear H
      have H := H1
      clear H1
      have H' := Aside0.mk H
      clear H
      go_wp2
      repeat (go_quiet (fail); try go_wp2)
      go_meet
      case rel => exact ⟨_, (true), (by first | rfl | (simp; done) | (simp [*]; done)), H', ⟨by first | omega | exact Nat.le_refl _⟩, ⟨by (with_reducible repeat (first | refine blk_drewN ?_ _ | refine blk_drew ?_ | refine blk_alloc ?_ _)); exact BK108.out⟩, ⟨by repeat (first | (with_reducible first | exact HB.out | apply below_alloc | apply pw_below_drewN | apply below_drew1 | refine below_set ?_ GE108.out) | exact HB.out)⟩⟩
  case rest =>
    clear HC6
    try clear c1
    try clear p2
    try clear c3
    try clear c11
    try clear c12
    try clear c12b0
    try clear hcz13_0
    try clear hcz13_1
    try clear hcz13_2
    try clear hcz9_0
    try clear hcz9_1
    try clear hcz9_2
    try clear hfz13_0
    try clear hfz13_1
    try clear hfz13_2
    try clear hfz9_0
    try clear hfz9_1
    try clear hfz9_2
    obtain ⟨kq, x27_5, rfl, HA, HJ5, BK108, HB⟩ := hcut
    cases kq with
    | zero => exact absurd HA.out (by simp [copyholdlaw04_DiskSectors.j0])
    | succ kj5 =>
      have H := HA.out
      clear HA
      simp only [copyholdlaw04_DiskSectors.j0] at H
      by_cases c14 : x27_5 = true
      · subst c14
        have H1 : (some t109) = some r := by rw [if_pos rfl] at H; exact H
        clear H
        have H := H1
        clear H1
        obtain rfl := Option.some.inj H
        go_wp2
        repeat (go_quiet (fail); try go_wp2)
        go_ret
        exact ⟨by first | rfl | (simp [errW_none, errW_some] <;> rfl) | (simp [*, errW_none, errW_some] <;> rfl), by repeat (first | (with_reducible first | exact HB.out | apply below_alloc | apply pw_below_drewN | apply below_drew1 | refine below_set ?_ GE108.out) | exact HB.out)⟩
      · replace c14 := Bool.eq_false_iff.mpr c14
        subst c14
        have H1 : ((disk_Crash.f l0_0 l0_1 a0_2 l1).bind fun bt111 => (if (bt111.1.length : Int) = (l0_0.length : Int) then (if (bt111.2.1.length : Int) > 0 then (copyholdlaw04_DiskSectors.j1 kj5 a2 t109 true l0_0 l0_1 a0_2 bt111.1 bt111.2.1 bt111.2.2) else (copyholdlaw04_DiskSectors.j1 kj5 a2 t109 bt111.2.2 l0_0 l0_1 a0_2 bt111.1 bt111.2.1 bt111.2.2)) else (copyholdlaw04_DiskSectors.j1 kj5 a2 t109 true l0_0 l0_1 a0_2 bt111.1 bt111.2.1 bt111.2.2))) = some r := by rw [if_neg (show ¬ (false = true) by decide)] at H; exact H
        clear H
        have H := H1
        clear H1
        replace H := Option.bind_eq_some_iff.mp H
        obtain ⟨⟨t111, t114, t117⟩, A150, H⟩ := H
        replace H : (if (t111.length : Int) = (l0_0.length : Int) then (if (t114.length : Int) > 0 then (copyholdlaw04_DiskSectors.j1 kj5 a2 t109 true l0_0 l0_1 a0_2 t111 t114 t117) else (copyholdlaw04_DiskSectors.j1 kj5 a2 t109 t117 l0_0 l0_1 a0_2 t111 t114 t117)) else (copyholdlaw04_DiskSectors.j1 kj5 a2 t109 true l0_0 l0_1 a0_2 t111 t114 t117)) = some r := H
        have A15 := Aside0.mk A150
        clear A150
        have HC16 := Aside0.mk H
        clear H
        have hcz17_0 : wc.cell? ⟨gb108, 0, none⟩ = some (.slice A0_0 l0_0.length c0_0) := (blk_cell BK108.out 0).trans rfl
        have hcz17_1 : wc.cell? ⟨gb108, 1, none⟩ = some (.slice A0_1 l0_1.length c0_1) := (blk_cell BK108.out 1).trans rfl
        have hcz17_2 : wc.cell? ⟨gb108, 2, none⟩ = some (.bool a0_2) := (blk_cell BK108.out 2).trans rfl
        have hfz17_0 := blk_frozen BK108.out 0
        have hfz17_1 := blk_frozen BK108.out 1
        have hfz17_2 := blk_frozen BK108.out 2
        go_upto_region 6 with (first | (go_at_call 11; (with_reducible refine (disk_Crash.calls _ _ l0_0 _ _ l0_1 a0_2 _ _ l1 t111 t114 t117 _ ?side1 ?side2 ?side3 ?side4 ?side5 ?side6 A15.out).mono ?_); (case side1 => repeat (first | exact (Kd.C_below HR0_0.out HB.out) | (with_reducible refine Kd.C_alloc ?_ _) | (with_reducible refine Kd.C_drewN ?_ _) | (with_reducible refine Kd.C_drew ?_))); (case side2 => exact HC0_0.out); (case side3 => repeat (first | exact (Kd.C_below HR0_1.out HB.out) | (with_reducible refine Kd.C_alloc ?_ _) | (with_reducible refine Kd.C_drewN ?_ _) | (with_reducible refine Kd.C_drew ?_))); (case side4 => exact HC0_1.out); (case side5 => repeat (first | exact (Kd.C_below HR1.out HB.out) | (with_reducible refine Kd.C_alloc ?_ _) | (with_reducible refine Kd.C_drewN ?_ _) | (with_reducible refine Kd.C_drew ?_))); (case side6 => exact HC1.out); rintro e w18 ⟨v112, v115, rfl, ho0, ho1, hb⟩; have n0_ := Aside0.mk (Kd.R_lower ho0 (below_size (by repeat (first | (with_reducible first | exact HB.out | apply below_alloc | apply pw_below_drewN | apply below_drew1 | refine below_set ?_ GE108.out) | exact HB.out)))); have n1_ := Aside0.mk (Kd.R_lower ho1 (below_size (by repeat (first | (with_reducible first | exact HB.out | apply below_alloc | apply pw_below_drewN | apply below_drew1 | refine below_set ?_ GE108.out) | exact HB.out)))); have n2_ := Aside0.mk (blk_below (g := gb108) (o := .cells #[.slice A0_0 l0_0.length c0_0, .slice A0_1 l0_1.length c0_1, .bool a0_2] 25 (0, 0)) (by (with_reducible repeat (first | refine blk_drewN ?_ _ | refine blk_drew ?_ | refine blk_alloc ?_ _)); exact BK108.out) hb); have n3_ := Aside0.mk (below_step (by repeat (first | (with_reducible first | exact HB.out | apply below_alloc | apply pw_below_drewN | apply below_drew1 | refine below_set ?_ GE108.out) | exact HB.out)) hb); clear BK108; clear HB; have HO113 := n0_; have HO116 := n1_; have BK108 := n2_; have HB := n3_; clear n0_ n1_ n2_ n3_; (try clear hb); (try clear hb2); (try clear hk); (try clear hi); (try clear ho0); (try clear ho1)) | ((with_reducible refine gate_dst (N := 9) rfl ?_); (try (refine gate_guard (by rfl) ?_; dsimp only)); refine box_event ?hg (N := 9) ?hd (cs := #[.slice none 0 0, .slice none 0 0, .bool false]) (t := 25) ?hr ?_; (case hd => rfl); (case hg => rfl); (case hr => first | (go_simp; done) | (go_simp; rfl)); intro gb118 hg w19 hbox hb; have n0_ := Aside0.mk (Kd.R_below (by (with_reducible repeat (first | apply Kd.R_alloc | apply Kd.R_drewN | apply Kd.R_drew)); exact HO113.out) hb); have n1_ := Aside0.mk (Kd.R_below (by (with_reducible repeat (first | apply Kd.R_alloc | apply Kd.R_drewN | apply Kd.R_drew)); exact HO116.out) hb); have n2_ := Aside0.mk (blk_below (g := gb108) (o := .cells #[.slice A0_0 l0_0.length c0_0, .slice A0_1 l0_1.length c0_1, .bool a0_2] 25 (0, 0)) (by (with_reducible repeat (first | refine blk_drewN ?_ _ | refine blk_drew ?_ | refine blk_alloc ?_ _)); exact BK108.out) hb); have n3_ := Aside0.mk (below_step (by repeat (first | (with_reducible first | exact HB.out | apply below_alloc | apply pw_below_drewN | apply below_drew1 | refine below_set ?_ GE108.out) | exact HB.out)) hb); have n4_ := Aside0.mk (hbox); have n5_ := Aside0.mk ((by rw [hg]; exact (below_size (by repeat (first | (with_reducible first | exact HB.out | apply below_alloc | apply pw_below_drewN | apply below_drew1 | refine below_set ?_ GE108.out) | exact HB.out))) : w.heap.size ≤ gb118)); have n6_ := Aside0.mk ((by rw [hg]; exact (below_size (by repeat (first | (with_reducible first | exact HB.out | apply below_alloc | apply pw_below_drewN | apply below_drew1 | refine below_set ?_ GE108.out) | exact HB.out))) : w.heap.size ≤ gb118)); have n7_ := Aside0.mk ((by rw [hg]; exact Nat.ne_of_lt (blk_lt (g := gb108) (o := .cells #[.slice A0_0 l0_0.length c0_0, .slice A0_1 l0_1.length c0_1, .bool a0_2] 25 (0, 0)) (by (with_reducible repeat (first | refine blk_drewN ?_ _ | refine blk_drew ?_ | refine blk_alloc ?_ _)); exact BK108.out)) : gb108 ≠ gb118)); have n8_ := Aside0.mk ((by rw [hg]; exact Nat.ne_of_gt (blk_lt (g := gb108) (o := .cells #[.slice A0_0 l0_0.length c0_0, .slice A0_1 l0_1.length c0_1, .bool a0_2] 25 (0, 0)) (by (with_reducible repeat (first | refine blk_drewN ?_ _ | refine blk_drew ?_ | refine blk_alloc ?_ _)); exact BK108.out)) : gb118 ≠ gb108)); clear HO113; clear HO116; clear BK108; clear HB; have HO113 := n0_; have HO116 := n1_; have BK108 := n2_; have HB := n3_; have BK118 := n4_; have GW118 := n5_; have GE118 := n6_; have NB108_118 := n7_; have NB118_108 := n8_; clear n0_ n1_ n2_ n3_ n4_ n5_ n6_ n7_ n8_; clear hb hbox hg; obtain ⟨Ao20, co20, eo20⟩ := Kd.R_slice HO113.out; subst eo20; have hnb21 := NB118_108.out; have hnc21 := NB108_118.out; have hcz22_0 : w19.cell? ⟨gb118, 0, none⟩ = some (.slice none 0 0) := (blk_cell BK118.out 0).trans rfl; have hcz22_1 : w19.cell? ⟨gb118, 1, none⟩ = some (.slice none 0 0) := (blk_cell BK118.out 1).trans rfl; have hcz22_2 : w19.cell? ⟨gb118, 2, none⟩ = some (.bool false) := (blk_cell BK118.out 2).trans rfl; have hfz22_0 := blk_frozen BK118.out 0; have hfz22_1 := blk_frozen BK118.out 1; have hfz22_2 := blk_frozen BK118.out 2; obtain ⟨Ao23, co23, eo23⟩ := Kd.R_slice HO116.out; subst eo23))
        repeat (go_quiet (first | (go_at_call 11; (with_reducible refine (disk_Crash.calls _ _ l0_0 _ _ l0_1 a0_2 _ _ l1 t111 t114 t117 _ ?side1 ?side2 ?side3 ?side4 ?side5 ?side6 A15.out).mono ?_); (case side1 => repeat (first | exact (Kd.C_below HR0_0.out HB.out) | (with_reducible refine Kd.C_alloc ?_ _) | (with_reducible refine Kd.C_drewN ?_ _) | (with_reducible refine Kd.C_drew ?_))); (case side2 => exact HC0_0.out); (case side3 => repeat (first | exact (Kd.C_below HR0_1.out HB.out) | (with_reducible refine Kd.C_alloc ?_ _) | (with_reducible refine Kd.C_drewN ?_ _) | (with_reducible refine Kd.C_drew ?_))); (case side4 => exact HC0_1.out); (case side5 => repeat (first | exact (Kd.C_below HR1.out HB.out) | (with_reducible refine Kd.C_alloc ?_ _) | (with_reducible refine Kd.C_drewN ?_ _) | (with_reducible refine Kd.C_drew ?_))); (case side6 => exact HC1.out); rintro e w18 ⟨v112, v115, rfl, ho0, ho1, hb⟩; have n0_ := Aside0.mk (Kd.R_lower ho0 (below_size (by repeat (first | (with_reducible first | exact HB.out | apply below_alloc | apply pw_below_drewN | apply below_drew1 | refine below_set ?_ GE108.out) | exact HB.out)))); have n1_ := Aside0.mk (Kd.R_lower ho1 (below_size (by repeat (first | (with_reducible first | exact HB.out | apply below_alloc | apply pw_below_drewN | apply below_drew1 | refine below_set ?_ GE108.out) | exact HB.out)))); have n2_ := Aside0.mk (blk_below (g := gb108) (o := .cells #[.slice A0_0 l0_0.length c0_0, .slice A0_1 l0_1.length c0_1, .bool a0_2] 25 (0, 0)) (by (with_reducible repeat (first | refine blk_drewN ?_ _ | refine blk_drew ?_ | refine blk_alloc ?_ _)); exact BK108.out) hb); have n3_ := Aside0.mk (below_step (by repeat (first | (with_reducible first | exact HB.out | apply below_alloc | apply pw_below_drewN | apply below_drew1 | refine below_set ?_ GE108.out) | exact HB.out)) hb); clear BK108; clear HB; have HO113 := n0_; have HO116 := n1_; have BK108 := n2_; have HB := n3_; clear n0_ n1_ n2_ n3_; (try clear hb); (try clear hb2); (try clear hk); (try clear hi); (try clear ho0); (try clear ho1)) | ((with_reducible refine gate_dst (N := 9) rfl ?_); (try (refine gate_guard (by rfl) ?_; dsimp only)); refine box_event ?hg (N := 9) ?hd (cs := #[.slice none 0 0, .slice none 0 0, .bool false]) (t := 25) ?hr ?_; (case hd => rfl); (case hg => rfl); (case hr => first | (go_simp; done) | (go_simp; rfl)); intro gb118 hg w19 hbox hb; have n0_ := Aside0.mk (Kd.R_below (by (with_reducible repeat (first | apply Kd.R_alloc | apply Kd.R_drewN | apply Kd.R_drew)); exact HO113.out) hb); have n1_ := Aside0.mk (Kd.R_below (by (with_reducible repeat (first | apply Kd.R_alloc | apply Kd.R_drewN | apply Kd.R_drew)); exact HO116.out) hb); have n2_ := Aside0.mk (blk_below (g := gb108) (o := .cells #[.slice A0_0 l0_0.length c0_0, .slice A0_1 l0_1.length c0_1, .bool a0_2] 25 (0, 0)) (by (with_reducible repeat (first | refine blk_drewN ?_ _ | refine blk_drew ?_ | refine blk_alloc ?_ _)); exact BK108.out) hb); have n3_ := Aside0.mk (below_step (by repeat (first | (with_reducible first | exact HB.out | apply below_alloc | apply pw_below_drewN | apply below_drew1 | refine below_set ?_ GE108.out) | exact HB.out)) hb); have n4_ := Aside0.mk (hbox); have n5_ := Aside0.mk ((by rw [hg]; exact (below_size (by repeat (first | (with_reducible first | exact HB.out | apply below_alloc | apply pw_below_drewN | apply below_drew1 | refine below_set ?_ GE108.out) | exact HB.out))) : w.heap.size ≤ gb118)); have n6_ := Aside0.mk ((by rw [hg]; exact (below_size (by repeat (first | (with_reducible first | exact HB.out | apply below_alloc | apply pw_below_drewN | apply below_drew1 | refine below_set ?_ GE108.out) | exact HB.out))) : w.heap.size ≤ gb118)); have n7_ := Aside0.mk ((by rw [hg]; exact Nat.ne_of_lt (blk_lt (g := gb108) (o := .cells #[.slice A0_0 l0_0.length c0_0, .slice A0_1 l0_1.length c0_1, .bool a0_2] 25 (0, 0)) (by (with_reducible repeat (first | refine blk_drewN ?_ _ | refine blk_drew ?_ | refine blk_alloc ?_ _)); exact BK108.out)) : gb108 ≠ gb118)); have n8_ := Aside0.mk ((by rw [hg]; exact Nat.ne_of_gt (blk_lt (g := gb108) (o := .cells #[.slice A0_0 l0_0.length c0_0, .slice A0_1 l0_1.length c0_1, .bool a0_2] 25 (0, 0)) (by (with_reducible repeat (first | refine blk_drewN ?_ _ | refine blk_drew ?_ | refine blk_alloc ?_ _)); exact BK108.out)) : gb118 ≠ gb108)); clear HO113; clear HO116; clear BK108; clear HB; have HO113 := n0_; have HO116 := n1_; have BK108 := n2_; have HB := n3_; have BK118 := n4_; have GW118 := n5_; have GE118 := n6_; have NB108_118 := n7_; have NB118_108 := n8_; clear n0_ n1_ n2_ n3_ n4_ n5_ n6_ n7_ n8_; clear hb hbox hg; obtain ⟨Ao20, co20, eo20⟩ := Kd.R_slice HO113.out; subst eo20; have hnb21 := NB118_108.out; have hnc21 := NB108_118.out; have hcz22_0 : w19.cell? ⟨gb118, 0, none⟩ = some (.slice none 0 0) := (blk_cell BK118.out 0).trans rfl; have hcz22_1 : w19.cell? ⟨gb118, 1, none⟩ = some (.slice none 0 0) := (blk_cell BK118.out 1).trans rfl; have hcz22_2 : w19.cell? ⟨gb118, 2, none⟩ = some (.bool false) := (blk_cell BK118.out 2).trans rfl; have hfz22_0 := blk_frozen BK118.out 0; have hfz22_1 := blk_frozen BK118.out 1; have hfz22_2 := blk_frozen BK118.out 2; obtain ⟨Ao23, co23, eo23⟩ := Kd.R_slice HO116.out; subst eo23)); go_upto_region 6 with (first | (go_at_call 11; (with_reducible refine (disk_Crash.calls _ _ l0_0 _ _ l0_1 a0_2 _ _ l1 t111 t114 t117 _ ?side1 ?side2 ?side3 ?side4 ?side5 ?side6 A15.out).mono ?_); (case side1 => repeat (first | exact (Kd.C_below HR0_0.out HB.out) | (with_reducible refine Kd.C_alloc ?_ _) | (with_reducible refine Kd.C_drewN ?_ _) | (with_reducible refine Kd.C_drew ?_))); (case side2 => exact HC0_0.out); (case side3 => repeat (first | exact (Kd.C_below HR0_1.out HB.out) | (with_reducible refine Kd.C_alloc ?_ _) | (with_reducible refine Kd.C_drewN ?_ _) | (with_reducible refine Kd.C_drew ?_))); (case side4 => exact HC0_1.out); (case side5 => repeat (first | exact (Kd.C_below HR1.out HB.out) | (with_reducible refine Kd.C_alloc ?_ _) | (with_reducible refine Kd.C_drewN ?_ _) | (with_reducible refine Kd.C_drew ?_))); (case side6 => exact HC1.out); rintro e w18 ⟨v112, v115, rfl, ho0, ho1, hb⟩; have n0_ := Aside0.mk (Kd.R_lower ho0 (below_size (by repeat (first | (with_reducible first | exact HB.out | apply below_alloc | apply pw_below_drewN | apply below_drew1 | refine below_set ?_ GE108.out) | exact HB.out)))); have n1_ := Aside0.mk (Kd.R_lower ho1 (below_size (by repeat (first | (with_reducible first | exact HB.out | apply below_alloc | apply pw_below_drewN | apply below_drew1 | refine below_set ?_ GE108.out) | exact HB.out)))); have n2_ := Aside0.mk (blk_below (g := gb108) (o := .cells #[.slice A0_0 l0_0.length c0_0, .slice A0_1 l0_1.length c0_1, .bool a0_2] 25 (0, 0)) (by (with_reducible repeat (first | refine blk_drewN ?_ _ | refine blk_drew ?_ | refine blk_alloc ?_ _)); exact BK108.out) hb); have n3_ := Aside0.mk (below_step (by repeat (first | (with_reducible first | exact HB.out | apply below_alloc | apply pw_below_drewN | apply below_drew1 | refine below_set ?_ GE108.out) | exact HB.out)) hb); clear BK108; clear HB; have HO113 := n0_; have HO116 := n1_; have BK108 := n2_; have HB := n3_; clear n0_ n1_ n2_ n3_; (try clear hb); (try clear hb2); (try clear hk); (try clear hi); (try clear ho0); (try clear ho1)) | ((with_reducible refine gate_dst (N := 9) rfl ?_); (try (refine gate_guard (by rfl) ?_; dsimp only)); refine box_event ?hg (N := 9) ?hd (cs := #[.slice none 0 0, .slice none 0 0, .bool false]) (t := 25) ?hr ?_; (case hd => rfl); (case hg => rfl); (case hr => first | (go_simp; done) | (go_simp; rfl)); intro gb118 hg w19 hbox hb; have n0_ := Aside0.mk (Kd.R_below (by (with_reducible repeat (first | apply Kd.R_alloc | apply Kd.R_drewN | apply Kd.R_drew)); exact HO113.out) hb); have n1_ := Aside0.mk (Kd.R_below (by (with_reducible repeat (first | apply Kd.R_alloc | apply Kd.R_drewN | apply Kd.R_drew)); exact HO116.out) hb); have n2_ := Aside0.mk (blk_below (g := gb108) (o := .cells #[.slice A0_0 l0_0.length c0_0, .slice A0_1 l0_1.length c0_1, .bool a0_2] 25 (0, 0)) (by (with_reducible repeat (first | refine blk_drewN ?_ _ | refine blk_drew ?_ | refine blk_alloc ?_ _)); exact BK108.out) hb); have n3_ := Aside0.mk (below_step (by repeat (first | (with_reducible first | exact HB.out | apply below_alloc | apply pw_below_drewN | apply below_drew1 | refine below_set ?_ GE108.out) | exact HB.out)) hb); have n4_ := Aside0.mk (hbox); have n5_ := Aside0.mk ((by rw [hg]; exact (below_size (by repeat (first | (with_reducible first | exact HB.out | apply below_alloc | apply pw_below_drewN | apply below_drew1 | refine below_set ?_ GE108.out) | exact HB.out))) : w.heap.size ≤ gb118)); have n6_ := Aside0.mk ((by rw [hg]; exact (below_size (by repeat (first | (with_reducible first | exact HB.out | apply below_alloc | apply pw_below_drewN | apply below_drew1 | refine below_set ?_ GE108.out) | exact HB.out))) : w.heap.size ≤ gb118)); have n7_ := Aside0.mk ((by rw [hg]; exact Nat.ne_of_lt (blk_lt (g := gb108) (o := .cells #[.slice A0_0 l0_0.length c0_0, .slice A0_1 l0_1.length c0_1, .bool a0_2] 25 (0, 0)) (by (with_reducible repeat (first | refine blk_drewN ?_ _ | refine blk_drew ?_ | refine blk_alloc ?_ _)); exact BK108.out)) : gb108 ≠ gb118)); have n8_ := Aside0.mk ((by rw [hg]; exact Nat.ne_of_gt (blk_lt (g := gb108) (o := .cells #[.slice A0_0 l0_0.length c0_0, .slice A0_1 l0_1.length c0_1, .bool a0_2] 25 (0, 0)) (by (with_reducible repeat (first | refine blk_drewN ?_ _ | refine blk_drew ?_ | refine blk_alloc ?_ _)); exact BK108.out)) : gb118 ≠ gb108)); clear HO113; clear HO116; clear BK108; clear HB; have HO113 := n0_; have HO116 := n1_; have BK108 := n2_; have HB := n3_; have BK118 := n4_; have GW118 := n5_; have GE118 := n6_; have NB108_118 := n7_; have NB118_108 := n8_; clear n0_ n1_ n2_ n3_ n4_ n5_ n6_ n7_ n8_; clear hb hbox hg; obtain ⟨Ao20, co20, eo20⟩ := Kd.R_slice HO113.out; subst eo20; have hnb21 := NB118_108.out; have hnc21 := NB108_118.out; have hcz22_0 : w19.cell? ⟨gb118, 0, none⟩ = some (.slice none 0 0) := (blk_cell BK118.out 0).trans rfl; have hcz22_1 : w19.cell? ⟨gb118, 1, none⟩ = some (.slice none 0 0) := (blk_cell BK118.out 1).trans rfl; have hcz22_2 : w19.cell? ⟨gb118, 2, none⟩ = some (.bool false) := (blk_cell BK118.out 2).trans rfl; have hfz22_0 := blk_frozen BK118.out 0; have hfz22_1 := blk_frozen BK118.out 1; have hfz22_2 := blk_frozen BK118.out 2; obtain ⟨Ao23, co23, eo23⟩ := Kd.R_slice HO116.out; subst eo23)))
        (try simp only [Act.put, List.setIfInBounds_toArray, List.set_cons_zero, List.set_cons_succ])
        go_cut [48] (fun v48 wc => ∃ (kq : Nat) (x48_15 : Bool), v48 = .bool x48_15 ∧ Aside0 (copyholdlaw04_DiskSectors.j1 kq a2 t109 x48_15 l0_0 l0_1 a0_2 t111 t114 t117 = some r) ∧ Aside0 (kq ≤ kj5) ∧ Aside0 (Kd.R Kd.string 9 wc w.heap.size (fun _ => True) (.slice Ao20 t111.length co20) t111) ∧ Aside0 (Kd.R k31 31 wc w.heap.size (fun _ => True) (.slice Ao23 t114.length co23) t114) ∧ Aside0 (wc.heap[gb108]? = some (.cells #[(.slice A0_0 l0_0.length c0_0), (.slice A0_1 l0_1.length c0_1), .bool a0_2] 25 (0, 0))) ∧ Aside0 (wc.heap[gb118]? = some (.cells #[(.slice Ao20 t111.length co20), (.slice Ao23 t114.length co23), .bool t117] 25 (0, 0))) ∧ Aside0 (Below w.heap.size w wc))
        case first =>
          have H := HC16.out
          clear HC16
          by_cases c24 : (t111.length : Int) = (l0_0.length : Int)
          · rw [if_pos c24] at H
            have c24b0 : ((t111.length : Int) == (l0_0.length : Int)) = true := beq_iff_eq.mpr c24
            have c24b1 : ((t111.length : Int) != (l0_0.length : Int)) = false := bne_eq_false_iff_eq.mpr c24
            have c24b2 : (t111.length == l0_0.length) = true := by first | simpa using c24 | (simp at c24 ⊢; omega)
            clear c24
            (first | rw [c24b0] | (simp only [i64_w, i32_w]; rw [c24b0]) | skip)
            by_cases c25 : (t114.length : Int) > 0
            · rw [if_pos c25] at H
              have c25b0 : decide (0 < (t114.length : Int)) = true := decide_eq_true c25
              have c25b1 : decide (0 < t114.length) = true := decide_eq_true (by omega)
              clear c25
              have H' := Aside0.mk H
              clear H
              have hnb26 := NB118_108.out
              have hnc26 := NB108_118.out
              have hcz27_0 : w19.cell? ⟨gb118, 0, none⟩ = some (.slice none 0 0) := (blk_cell BK118.out 0).trans rfl
              have hcz27_1 : w19.cell? ⟨gb118, 1, none⟩ = some (.slice none 0 0) := (blk_cell BK118.out 1).trans rfl
              have hcz27_2 : w19.cell? ⟨gb118, 2, none⟩ = some (.bool false) := (blk_cell BK118.out 2).trans rfl
              have hfz27_0 := blk_frozen BK118.out 0
              have hfz27_1 := blk_frozen BK118.out 1
              have hfz27_2 := blk_frozen BK118.out 2
              have hcz28_0 : w19.cell? ⟨gb108, 0, none⟩ = some (.slice A0_0 l0_0.length c0_0) := (blk_cell BK108.out 0).trans rfl
              have hcz28_1 : w19.cell? ⟨gb108, 1, none⟩ = some (.slice A0_1 l0_1.length c0_1) := (blk_cell BK108.out 1).trans rfl
              have hcz28_2 : w19.cell? ⟨gb108, 2, none⟩ = some (.bool a0_2) := (blk_cell BK108.out 2).trans rfl
              have hfz28_0 := blk_frozen BK108.out 0
              have hfz28_1 := blk_frozen BK108.out 1
              have hfz28_2 := blk_frozen BK108.out 2
              go_wp2
              repeat (go_quiet (fail); try go_wp2)
              go_meet
              case rel => exact ⟨_, (true), (by first | rfl | (simp; done) | (simp [*]; done)), H', ⟨by have := HJ5.out; first | omega | exact Nat.le_refl _⟩, ⟨by (with_reducible repeat (first | apply Kd.R_alloc | apply Kd.R_drewN | apply Kd.R_drew)); exact Kd.R_mono (Kd.R_far (p := ⟨gb118, 2, none⟩) (Kd.R_far (p := ⟨gb118, 1, none⟩) (Kd.R_far (p := ⟨gb118, 0, none⟩) (Kd.R_types HO113.out BK118.out (by decide)) (fun _ hk => hk.2) (.slice Ao20 t111.length co20)) (fun _ hk => hk.2) (.slice Ao23 t114.length co23)) (fun _ hk => hk.2) (.bool t117)) (fun _ hk => trivial)⟩, ⟨by (with_reducible repeat (first | apply Kd.R_alloc | apply Kd.R_drewN | apply Kd.R_drew)); exact Kd.R_mono (Kd.R_far (p := ⟨gb118, 2, none⟩) (Kd.R_far (p := ⟨gb118, 1, none⟩) (Kd.R_far (p := ⟨gb118, 0, none⟩) (Kd.R_types HO116.out BK118.out (by decide)) (fun _ hk => hk.2) (.slice Ao20 t111.length co20)) (fun _ hk => hk.2) (.slice Ao23 t114.length co23)) (fun _ hk => hk.2) (.bool t117)) (fun _ hk => trivial)⟩, ⟨by (with_reducible repeat (first | refine blk_drewN ?_ _ | refine blk_drew ?_ | refine blk_alloc ?_ _)); refine blk_far ?_ NB108_118.out _; (with_reducible repeat (first | refine blk_drewN ?_ _ | refine blk_drew ?_ | refine blk_alloc ?_ _)); refine blk_far ?_ NB108_118.out _; (with_reducible repeat (first | refine blk_drewN ?_ _ | refine blk_drew ?_ | refine blk_alloc ?_ _)); refine blk_far ?_ NB108_118.out _; (with_reducible repeat (first | refine blk_drewN ?_ _ | refine blk_drew ?_ | refine blk_alloc ?_ _)); exact BK108.out⟩, ⟨by (with_reducible repeat (first | refine blk_drewN ?_ _ | refine blk_drew ?_ | refine blk_alloc ?_ _)); refine blk_put (cs := #[.slice Ao20 t111.length co20, .slice Ao23 t114.length co23, .bool false]) ?_ 2 _ rfl; (with_reducible repeat (first | refine blk_drewN ?_ _ | refine blk_drew ?_ | refine blk_alloc ?_ _)); refine blk_put (cs := #[.slice Ao20 t111.length co20, .slice none 0 0, .bool false]) ?_ 1 _ rfl; (with_reducible repeat (first | refine blk_drewN ?_ _ | refine blk_drew ?_ | refine blk_alloc ?_ _)); refine blk_put (cs := #[.slice none 0 0, .slice none 0 0, .bool false]) ?_ 0 _ rfl; (with_reducible repeat (first | refine blk_drewN ?_ _ | refine blk_drew ?_ | refine blk_alloc ?_ _)); exact BK118.out⟩, ⟨by repeat (first | (with_reducible first | exact HB.out | apply below_alloc | apply pw_below_drewN | apply below_drew1 | refine below_set ?_ GE108.out | refine below_set ?_ GE118.out) | exact HB.out)⟩⟩
            · rw [if_neg c25] at H
              have c25b0 : decide (0 < (t114.length : Int)) = false := decide_eq_false c25
              have c25b1 : decide (0 < t114.length) = false := decide_eq_false (by omega)
              clear c25
              have H' := Aside0.mk H
              clear H
              have hnb29 := NB118_108.out
              have hnc29 := NB108_118.out
              have hcz30_0 : w19.cell? ⟨gb118, 0, none⟩ = some (.slice none 0 0) := (blk_cell BK118.out 0).trans rfl
              have hcz30_1 : w19.cell? ⟨gb118, 1, none⟩ = some (.slice none 0 0) := (blk_cell BK118.out 1).trans rfl
              have hcz30_2 : w19.cell? ⟨gb118, 2, none⟩ = some (.bool false) := (blk_cell BK118.out 2).trans rfl
              have hfz30_0 := blk_frozen BK118.out 0
              have hfz30_1 := blk_frozen BK118.out 1
              have hfz30_2 := blk_frozen BK118.out 2
              have hcz31_0 : w19.cell? ⟨gb108, 0, none⟩ = some (.slice A0_0 l0_0.length c0_0) := (blk_cell BK108.out 0).trans rfl
              have hcz31_1 : w19.cell? ⟨gb108, 1, none⟩ = some (.slice A0_1 l0_1.length c0_1) := (blk_cell BK108.out 1).trans rfl
              have hcz31_2 : w19.cell? ⟨gb108, 2, none⟩ = some (.bool a0_2) := (blk_cell BK108.out 2).trans rfl
              have hfz31_0 := blk_frozen BK108.out 0
              have hfz31_1 := blk_frozen BK108.out 1
              have hfz31_2 := blk_frozen BK108.out 2
              go_wp2
              repeat (go_quiet (fail); try go_wp2)
              go_meet
              case rel => exact ⟨_, (t117), (by first | rfl | (simp; done) | (simp [*]; done)), H', ⟨by have := HJ5.out; first | omega | exact Nat.le_refl _⟩, ⟨by (with_reducible repeat (first | apply Kd.R_alloc | apply Kd.R_drewN | apply Kd.R_drew)); exact Kd.R_mono (Kd.R_far (p := ⟨gb118, 2, none⟩) (Kd.R_far (p := ⟨gb118, 1, none⟩) (Kd.R_far (p := ⟨gb118, 0, none⟩) (Kd.R_types HO113.out BK118.out (by decide)) (fun _ hk => hk.2) (.slice Ao20 t111.length co20)) (fun _ hk => hk.2) (.slice Ao23 t114.length co23)) (fun _ hk => hk.2) (.bool t117)) (fun _ hk => trivial)⟩, ⟨by (with_reducible repeat (first | apply Kd.R_alloc | apply Kd.R_drewN | apply Kd.R_drew)); exact Kd.R_mono (Kd.R_far (p := ⟨gb118, 2, none⟩) (Kd.R_far (p := ⟨gb118, 1, none⟩) (Kd.R_far (p := ⟨gb118, 0, none⟩) (Kd.R_types HO116.out BK118.out (by decide)) (fun _ hk => hk.2) (.slice Ao20 t111.length co20)) (fun _ hk => hk.2) (.slice Ao23 t114.length co23)) (fun _ hk => hk.2) (.bool t117)) (fun _ hk => trivial)⟩, ⟨by (with_reducible repeat (first | refine blk_drewN ?_ _ | refine blk_drew ?_ | refine blk_alloc ?_ _)); refine blk_far ?_ NB108_118.out _; (with_reducible repeat (first | refine blk_drewN ?_ _ | refine blk_drew ?_ | refine blk_alloc ?_ _)); refine blk_far ?_ NB108_118.out _; (with_reducible repeat (first | refine blk_drewN ?_ _ | refine blk_drew ?_ | refine blk_alloc ?_ _)); refine blk_far ?_ NB108_118.out _; (with_reducible repeat (first | refine blk_drewN ?_ _ | refine blk_drew ?_ | refine blk_alloc ?_ _)); exact BK108.out⟩, ⟨by (with_reducible repeat (first | refine blk_drewN ?_ _ | refine blk_drew ?_ | refine blk_alloc ?_ _)); refine blk_put (cs := #[.slice Ao20 t111.length co20, .slice Ao23 t114.length co23, .bool false]) ?_ 2 _ rfl; (with_reducible repeat (first | refine blk_drewN ?_ _ | refine blk_drew ?_ | refine blk_alloc ?_ _)); refine blk_put (cs := #[.slice Ao20 t111.length co20, .slice none 0 0, .bool false]) ?_ 1 _ rfl; (with_reducible repeat (first | refine blk_drewN ?_ _ | refine blk_drew ?_ | refine blk_alloc ?_ _)); refine blk_put (cs := #[.slice none 0 0, .slice none 0 0, .bool false]) ?_ 0 _ rfl; (with_reducible repeat (first | refine blk_drewN ?_ _ | refine blk_drew ?_ | refine blk_alloc ?_ _)); exact BK118.out⟩, ⟨by repeat (first | (with_reducible first | exact HB.out | apply below_alloc | apply pw_below_drewN | apply below_drew1 | refine below_set ?_ GE108.out | refine below_set ?_ GE118.out) | exact HB.out)⟩⟩
          · rw [if_neg c24] at H
            have c24b0 : ((t111.length : Int) == (l0_0.length : Int)) = false := beq_eq_false_iff_ne.mpr c24
            have c24b1 : ((t111.length : Int) != (l0_0.length : Int)) = true := bne_iff_ne.mpr c24
            have c24b2 : (t111.length == l0_0.length) = false := by first | simpa using c24 | (simp at c24 ⊢; omega)
            (first | rw [c24b0] | (simp only [i64_w, i32_w]; rw [c24b0]) | skip)
            have H' := Aside0.mk H
            clear H
            have hnb32 := NB118_108.out
            have hnc32 := NB108_118.out
            have hcz33_0 : w19.cell? ⟨gb118, 0, none⟩ = some (.slice none 0 0) := (blk_cell BK118.out 0).trans rfl
            have hcz33_1 : w19.cell? ⟨gb118, 1, none⟩ = some (.slice none 0 0) := (blk_cell BK118.out 1).trans rfl
            have hcz33_2 : w19.cell? ⟨gb118, 2, none⟩ = some (.bool false) := (blk_cell BK118.out 2).trans rfl
            have hfz33_0 := blk_frozen BK118.out 0
            have hfz33_1 := blk_frozen BK118.out 1
            have hfz33_2 := blk_frozen BK118.out 2
            have hcz34_0 : w19.cell? ⟨gb108, 0, none⟩ = some (.slice A0_0 l0_0.length c0_0) := (blk_cell BK108.out 0).trans rfl
            have hcz34_1 : w19.cell? ⟨gb108, 1, none⟩ = some (.slice A0_1 l0_1.length c0_1) := (blk_cell BK108.out 1).trans rfl
            have hcz34_2 : w19.cell? ⟨gb108, 2, none⟩ = some (.bool a0_2) := (blk_cell BK108.out 2).trans rfl
            have hfz34_0 := blk_frozen BK108.out 0
            have hfz34_1 := blk_frozen BK108.out 1
            have hfz34_2 := blk_frozen BK108.out 2
            go_wp2
            repeat (go_quiet (fail); try go_wp2)
            go_meet
            case rel => exact ⟨_, (true), (by first | rfl | (simp; done) | (simp [*]; done)), H', ⟨by have := HJ5.out; first | omega | exact Nat.le_refl _⟩, ⟨by (with_reducible repeat (first | apply Kd.R_alloc | apply Kd.R_drewN | apply Kd.R_drew)); exact Kd.R_mono (Kd.R_far (p := ⟨gb118, 2, none⟩) (Kd.R_far (p := ⟨gb118, 1, none⟩) (Kd.R_far (p := ⟨gb118, 0, none⟩) (Kd.R_types HO113.out BK118.out (by decide)) (fun _ hk => hk.2) (.slice Ao20 t111.length co20)) (fun _ hk => hk.2) (.slice Ao23 t114.length co23)) (fun _ hk => hk.2) (.bool t117)) (fun _ hk => trivial)⟩, ⟨by (with_reducible repeat (first | apply Kd.R_alloc | apply Kd.R_drewN | apply Kd.R_drew)); exact Kd.R_mono (Kd.R_far (p := ⟨gb118, 2, none⟩) (Kd.R_far (p := ⟨gb118, 1, none⟩) (Kd.R_far (p := ⟨gb118, 0, none⟩) (Kd.R_types HO116.out BK118.out (by decide)) (fun _ hk => hk.2) (.slice Ao20 t111.length co20)) (fun _ hk => hk.2) (.slice Ao23 t114.length co23)) (fun _ hk => hk.2) (.bool t117)) (fun _ hk => trivial)⟩, ⟨by (with_reducible repeat (first | refine blk_drewN ?_ _ | refine blk_drew ?_ | refine blk_alloc ?_ _)); refine blk_far ?_ NB108_118.out _; (with_reducible repeat (first | refine blk_drewN ?_ _ | refine blk_drew ?_ | refine blk_alloc ?_ _)); refine blk_far ?_ NB108_118.out _; (with_reducible repeat (first | refine blk_drewN ?_ _ | refine blk_drew ?_ | refine blk_alloc ?_ _)); refine blk_far ?_ NB108_118.out _; (with_reducible repeat (first | refine blk_drewN ?_ _ | refine blk_drew ?_ | refine blk_alloc ?_ _)); exact BK108.out⟩, ⟨by (with_reducible repeat (first | refine blk_drewN ?_ _ | refine blk_drew ?_ | refine blk_alloc ?_ _)); refine blk_put (cs := #[.slice Ao20 t111.length co20, .slice Ao23 t114.length co23, .bool false]) ?_ 2 _ rfl; (with_reducible repeat (first | refine blk_drewN ?_ _ | refine blk_drew ?_ | refine blk_alloc ?_ _)); refine blk_put (cs := #[.slice Ao20 t111.length co20, .slice none 0 0, .bool false]) ?_ 1 _ rfl; (with_reducible repeat (first | refine blk_drewN ?_ _ | refine blk_drew ?_ | refine blk_alloc ?_ _)); refine blk_put (cs := #[.slice none 0 0, .slice none 0 0, .bool false]) ?_ 0 _ rfl; (with_reducible repeat (first | refine blk_drewN ?_ _ | refine blk_drew ?_ | refine blk_alloc ?_ _)); exact BK118.out⟩, ⟨by repeat (first | (with_reducible first | exact HB.out | apply below_alloc | apply pw_below_drewN | apply below_drew1 | refine below_set ?_ GE108.out | refine below_set ?_ GE118.out) | exact HB.out)⟩⟩
        case rest =>
          clear HC16
          try clear c1
          try clear c2
          try clear p2
          try clear c3
          try clear c11
          try clear c12
          try clear c12b0
          try clear c14
          try clear c21
          try clear c24
          try clear c24b0
          try clear c24b1
          try clear c24b2
          try clear c25
          try clear c25b0
          try clear c25b1
          try clear c26
          try clear c29
          try clear c32
          try clear hcz13_0
          try clear hcz13_1
          try clear hcz13_2
          try clear hcz17_0
          try clear hcz17_1
          try clear hcz17_2
          try clear hcz22_0
          try clear hcz22_1
          try clear hcz22_2
          try clear hcz27_0
          try clear hcz27_1
          try clear hcz27_2
          try clear hcz28_0
          try clear hcz28_1
          try clear hcz28_2
          try clear hcz30_0
          try clear hcz30_1
          try clear hcz30_2
          try clear hcz31_0
          try clear hcz31_1
          try clear hcz31_2
          try clear hcz33_0
          try clear hcz33_1
          try clear hcz33_2
          try clear hcz34_0
          try clear hcz34_1
          try clear hcz34_2
          try clear hcz9_0
          try clear hcz9_1
          try clear hcz9_2
          try clear hfz13_0
          try clear hfz13_1
          try clear hfz13_2
          try clear hfz17_0
          try clear hfz17_1
          try clear hfz17_2
          try clear hfz22_0
          try clear hfz22_1
          try clear hfz22_2
          try clear hfz27_0
          try clear hfz27_1
          try clear hfz27_2
          try clear hfz28_0
          try clear hfz28_1
          try clear hfz28_2
          try clear hfz30_0
          try clear hfz30_1
          try clear hfz30_2
          try clear hfz31_0
          try clear hfz31_1
          try clear hfz31_2
          try clear hfz33_0
          try clear hfz33_1
          try clear hfz33_2
          try clear hfz34_0
          try clear hfz34_1
          try clear hfz34_2
          try clear hfz9_0
          try clear hfz9_1
          try clear hfz9_2
          try clear p2
          obtain ⟨kq, x48_15, rfl, HA, HJ15, HO_119000, HO_119001, BK108, BK118, HB⟩ := hcut
          cases kq with
          | zero => exact absurd HA.out (by simp [copyholdlaw04_DiskSectors.j1])
          | succ kj15 =>
            have H := HA.out
            clear HA
            simp only [copyholdlaw04_DiskSectors.j1] at H
            by_cases c35 : x48_15 = true
            · subst c35
              have H1 : (some false) = some r := by rw [if_pos rfl] at H; exact H
              clear H
              have H := H1
              clear H1
              obtain rfl := Option.some.inj H
              go_wp2
              repeat (go_quiet (fail); try go_wp2)
              go_ret
              exact ⟨by first | rfl | (simp [errW_none, errW_some] <;> rfl) | (simp [*, errW_none, errW_some] <;> rfl), by repeat (first | (with_reducible first | exact HB.out | apply below_alloc | apply pw_below_drewN | apply below_drew1 | refine below_set ?_ GE108.out | refine below_set ?_ GE118.out) | exact HB.out)⟩
            · replace c35 := Bool.eq_false_iff.mpr c35
              subst c35
              have H1 : (if 0 ≤ a2 then (if a2 < (t111.length : Int) then (if a2 < (l0_0.length : Int) then (copyholdlaw04_DiskSectors.l0 kj15 a2 t109 ((rdOf ByteArray.empty t111 a2).toList == (rdOf ByteArray.empty l0_0 a2).toList) 0 l0_0 l0_1 a0_2 t111 t114 t117) else (none)) else (none)) else (none)) = some r := by rw [if_neg (show ¬ (false = true) by decide)] at H; exact H
              clear H
              have H := H1
              clear H1
              by_cases c36 : 0 ≤ a2
              · rw [if_pos c36] at H
                have c36b0 : decide (0 ≤ a2) = true := decide_eq_true c36
                clear c36
                by_cases c37 : a2 < (t111.length : Int)
                · rw [if_pos c37] at H
                  have c37b0 : decide (a2 < (t111.length : Int)) = true := decide_eq_true c37
                  clear c37
                  by_cases c38 : a2 < (l0_0.length : Int)
                  · rw [if_pos c38] at H
                    have c38b0 : decide (a2 < (l0_0.length : Int)) = true := decide_eq_true c38
                    clear c38
                    have H' := Aside0.mk H
                    clear H
                    have hnb39 := NB118_108.out
                    have hnc39 := NB108_118.out
                    have hcz40_0 : wc.cell? ⟨gb118, 0, none⟩ = some (.slice Ao20 t111.length co20) := (blk_cell BK118.out 0).trans rfl
                    have hcz40_1 : wc.cell? ⟨gb118, 1, none⟩ = some (.slice Ao23 t114.length co23) := (blk_cell BK118.out 1).trans rfl
                    have hcz40_2 : wc.cell? ⟨gb118, 2, none⟩ = some (.bool t117) := (blk_cell BK118.out 2).trans rfl
                    have hfz40_0 := blk_frozen BK118.out 0
                    have hfz40_1 := blk_frozen BK118.out 1
                    have hfz40_2 := blk_frozen BK118.out 2
                    have p119 : 0 ≤ (a2 : Int) := of_decide_eq_true (by first | (with_reducible assumption) | assumption)
                    have q119 : a2 < (t111.length : Int) := of_decide_eq_true (by first | (with_reducible assumption) | assumption)
                    obtain ⟨ad119, e119, hx119_0⟩ := Kd.at_string (Kd.R_reads' HO_119000.out).2.2 a2 p119 q119
                    cases e119
                    replace p119 := eq_true p119
                    replace q119 := eq_true q119
                    have hcz41_0 : wc.cell? ⟨gb108, 0, none⟩ = some (.slice A0_0 l0_0.length c0_0) := (blk_cell BK108.out 0).trans rfl
                    have hcz41_1 : wc.cell? ⟨gb108, 1, none⟩ = some (.slice A0_1 l0_1.length c0_1) := (blk_cell BK108.out 1).trans rfl
                    have hcz41_2 : wc.cell? ⟨gb108, 2, none⟩ = some (.bool a0_2) := (blk_cell BK108.out 2).trans rfl
                    have hfz41_0 := blk_frozen BK108.out 0
                    have hfz41_1 := blk_frozen BK108.out 1
                    have hfz41_2 := blk_frozen BK108.out 2
                    have p120 : 0 ≤ (a2 : Int) := of_decide_eq_true (by first | (with_reducible assumption) | assumption)
                    have q120 : a2 < (l0_0.length : Int) := of_decide_eq_true (by first | (with_reducible assumption) | assumption)
                    obtain ⟨ad120, e120, hx120_0⟩ := Kd.at_string HR0_0.out a2 p120 q120
                    cases e120
                    replace hx120_0 := (HB.out.cell (World.block_lt_of_cell? w _ hx120_0)).trans hx120_0
                    replace p120 := eq_true p120
                    replace q120 := eq_true q120
                    go_wp2
                    repeat (go_quiet (fail); try go_wp2)
                    go_loopg [10, 11] kj15 (fun kq v10 v11 w' => ∃ (x10_3 : Bool) (x11_3 : Int), v10 = .bool x10_3 ∧ v11 = .int .i64 x11_3 ∧ Aside0 (copyholdlaw04_DiskSectors.l0 kq a2 t109 x10_3 x11_3 l0_0 l0_1 a0_2 t111 t114 t117 = some r) ∧ Aside0 (kq ≤ kj15) ∧ Aside0 (Kd.R Kd.string 9 w' w.heap.size (fun _ => True) (.slice (some ad119) t111.length co20) t111) ∧ Aside0 (Kd.R k31 31 w' w.heap.size (fun _ => True) (.slice Ao23 t114.length co23) t114) ∧ Aside0 (w'.heap[gb108]? = some (.cells #[(.slice (some ad120) l0_0.length c0_0), (.slice A0_1 l0_1.length c0_1), .bool a0_2] 25 (0, 0))) ∧ Aside0 (w'.heap[gb118]? = some (.cells #[(.slice (some ad119) t111.length co20), (.slice Ao23 t114.length co23), .bool t117] 25 (0, 0))) ∧ Aside0 (Below w.heap.size w w'))
                    case atStart => exact ⟨(((rdOf ByteArray.empty t111 a2).toList == (rdOf ByteArray.empty l0_0 a2).toList)), (0), (by first | rfl | (simp; done) | (simp [*]; done)), (by first | rfl | (simp; done) | (simp [*]; done)), H', ⟨Nat.le_refl _⟩, ⟨by (with_reducible repeat (first | apply Kd.R_alloc | apply Kd.R_drewN | apply Kd.R_drew)); exact HO_119000.out⟩, ⟨by (with_reducible repeat (first | apply Kd.R_alloc | apply Kd.R_drewN | apply Kd.R_drew)); exact HO_119001.out⟩, ⟨by (with_reducible repeat (first | refine blk_drewN ?_ _ | refine blk_drew ?_ | refine blk_alloc ?_ _)); exact BK108.out⟩, ⟨by (with_reducible repeat (first | refine blk_drewN ?_ _ | refine blk_drew ?_ | refine blk_alloc ?_ _)); exact BK118.out⟩, ⟨by repeat (first | (with_reducible first | exact HB.out | apply below_alloc | apply pw_below_drewN | apply below_drew1 | refine below_set ?_ GE108.out | refine below_set ?_ GE118.out) | exact HB.out)⟩⟩
                    case round =>
                      clear H'
                      try clear c1
                      try clear p1
                      try clear q1
                      try clear hx1
                      try clear c2
                      try clear p2
                      try clear c3
                      try clear c11
                      try clear p11
                      try clear q11
                      try clear hx11
                      try clear c12
                      try clear c12b0
                      try clear p12
                      try clear q12
                      try clear hx12
                      try clear c14
                      try clear c21
                      try clear c24
                      try clear c24b0
                      try clear c24b1
                      try clear c24b2
                      try clear c25
                      try clear c25b0
                      try clear c25b1
                      try clear c26
                      try clear c29
                      try clear c32
                      try clear c35
                      try clear c36
                      try clear c36b0
                      try clear c37
                      try clear c37b0
                      try clear c38
                      try clear c38b0
                      try clear c39
                      try clear hcz13_0
                      try clear hcz13_1
                      try clear hcz13_2
                      try clear hcz17_0
                      try clear hcz17_1
                      try clear hcz17_2
                      try clear hcz22_0
                      try clear hcz22_1
                      try clear hcz22_2
                      try clear hcz27_0
                      try clear hcz27_1
                      try clear hcz27_2
                      try clear hcz28_0
                      try clear hcz28_1
                      try clear hcz28_2
                      try clear hcz30_0
                      try clear hcz30_1
                      try clear hcz30_2
                      try clear hcz31_0
                      try clear hcz31_1
                      try clear hcz31_2
                      try clear hcz33_0
                      try clear hcz33_1
                      try clear hcz33_2
                      try clear hcz34_0
                      try clear hcz34_1
                      try clear hcz34_2
                      try clear hcz40_0
                      try clear hcz40_1
                      try clear hcz40_2
                      try clear hcz41_0
                      try clear hcz41_1
                      try clear hcz41_2
                      try clear hcz9_0
                      try clear hcz9_1
                      try clear hcz9_2
                      try clear hfz13_0
                      try clear hfz13_1
                      try clear hfz13_2
                      try clear hfz17_0
                      try clear hfz17_1
                      try clear hfz17_2
                      try clear hfz22_0
                      try clear hfz22_1
                      try clear hfz22_2
                      try clear hfz27_0
                      try clear hfz27_1
                      try clear hfz27_2
                      try clear hfz28_0
                      try clear hfz28_1
                      try clear hfz28_2
                      try clear hfz30_0
                      try clear hfz30_1
                      try clear hfz30_2
                      try clear hfz31_0
                      try clear hfz31_1
                      try clear hfz31_2
                      try clear hfz33_0
                      try clear hfz33_1
                      try clear hfz33_2
                      try clear hfz34_0
                      try clear hfz34_1
                      try clear hfz34_2
                      try clear hfz40_0
                      try clear hfz40_1
                      try clear hfz40_2
                      try clear hfz41_0
                      try clear hfz41_1
                      try clear hfz41_2
                      try clear hfz9_0
                      try clear hfz9_1
                      try clear hfz9_2
                      try clear hx119_0
                      try clear hx120_0
                      try clear p119
                      try clear p120
                      try clear p2
                      try clear q119
                      try clear q120
                      obtain ⟨x10_3, x11_3, rfl, rfl, HA, HK3, HO_119000, HO_119001, BK108, BK118, HB⟩ := hrel
                      cases gk with
                      | zero => exact absurd HA.out (by simp [copyholdlaw04_DiskSectors.l0])
                      | succ k3 =>
                        have H := HA.out
                        clear HA
                        simp only [copyholdlaw04_DiskSectors.l0] at H
                        by_cases c42 : x11_3 < (l0_1.length : Int)
                        · rw [if_pos c42] at H
                          have c42b0 : decide (x11_3 < (l0_1.length : Int)) = true := decide_eq_true c42
                          clear c42
                          by_cases c43 : x10_3 = true
                          · subst c43
                            have H1 : (copyholdlaw04_DiskSectors.l0 k3 a2 t109 true (wrap64 (x11_3 + 1)) l0_0 l0_1 a0_2 t111 t114 t117) = some r := by rw [if_pos rfl] at H; exact H
                            clear H
                            have H := H1
                            clear H1
                            have H' := Aside0.mk H
                            clear H
                            have hnb44 := NB108_118.out
                            have hnc44 := NB118_108.out
                            have hcz45_0 : wr.cell? ⟨gb108, 0, none⟩ = some (.slice (some ad120) l0_0.length c0_0) := (blk_cell BK108.out 0).trans rfl
                            have hcz45_1 : wr.cell? ⟨gb108, 1, none⟩ = some (.slice A0_1 l0_1.length c0_1) := (blk_cell BK108.out 1).trans rfl
                            have hcz45_2 : wr.cell? ⟨gb108, 2, none⟩ = some (.bool a0_2) := (blk_cell BK108.out 2).trans rfl
                            have hfz45_0 := blk_frozen BK108.out 0
                            have hfz45_1 := blk_frozen BK108.out 1
                            have hfz45_2 := blk_frozen BK108.out 2
                            go_wp2
                            repeat (go_quiet (fail); try go_wp2)
                            go_roundg k3
                            case measure => have := HJ5.out; have := HJ15.out; have := HK3.out; omega
                            case rel => exact ⟨(true), (wrap64 (x11_3 + 1)), (by first | rfl | (simp; done) | (simp [*]; done)), (by first | rfl | (simp; done) | (simp [*]; done)), H', ⟨by have := HJ5.out; have := HJ15.out; have := HK3.out; omega⟩, ⟨by (with_reducible repeat (first | apply Kd.R_alloc | apply Kd.R_drewN | apply Kd.R_drew)); exact HO_119000.out⟩, ⟨by (with_reducible repeat (first | apply Kd.R_alloc | apply Kd.R_drewN | apply Kd.R_drew)); exact HO_119001.out⟩, ⟨by (with_reducible repeat (first | refine blk_drewN ?_ _ | refine blk_drew ?_ | refine blk_alloc ?_ _)); exact BK108.out⟩, ⟨by (with_reducible repeat (first | refine blk_drewN ?_ _ | refine blk_drew ?_ | refine blk_alloc ?_ _)); exact BK118.out⟩, ⟨by repeat (first | (with_reducible first | exact HB.out | apply below_alloc | apply pw_below_drewN | apply below_drew1 | refine below_set ?_ GE108.out | refine below_set ?_ GE118.out) | exact HB.out)⟩⟩
                          · replace c43 := Bool.eq_false_iff.mpr c43
                            subst c43
                            have H1 : (if 0 ≤ x11_3 then (if ((rd_T31 l0_1 x11_3).f0) = a2 then (if 0 ≤ a2 then (if a2 < (t111.length : Int) then (copyholdlaw04_DiskSectors.l0 k3 a2 t109 (((rd_T31 l0_1 x11_3).f1).toList == (rdOf ByteArray.empty t111 a2).toList) (wrap64 (x11_3 + 1)) l0_0 l0_1 a0_2 t111 t114 t117) else (none)) else (none)) else (copyholdlaw04_DiskSectors.l0 k3 a2 t109 false (wrap64 (x11_3 + 1)) l0_0 l0_1 a0_2 t111 t114 t117)) else (none)) = some r := by rw [if_neg (show ¬ (false = true) by decide)] at H; exact H
                            clear H
                            have H := H1
                            clear H1
                            by_cases c46 : 0 ≤ x11_3
                            · rw [if_pos c46] at H
                              have c46b0 : decide (0 ≤ x11_3) = true := decide_eq_true c46
                              clear c46
                              by_cases c47 : ((rd_T31 l0_1 x11_3).f0) = a2
                              · rw [if_pos c47] at H
                                have c47b0 : (((rd_T31 l0_1 x11_3).f0) == a2) = true := beq_iff_eq.mpr c47
                                have c47b1 : (((rd_T31 l0_1 x11_3).f0) != a2) = false := bne_eq_false_iff_eq.mpr c47
                                clear c47
                                by_cases c48 : 0 ≤ a2
                                · rw [if_pos c48] at H
                                  have c48b0 : decide (0 ≤ a2) = true := decide_eq_true c48
                                  clear c48
                                  by_cases c49 : a2 < (t111.length : Int)
                                  · rw [if_pos c49] at H
                                    have c49b0 : decide (a2 < (t111.length : Int)) = true := decide_eq_true c49
                                    clear c49
                                    have H' := Aside0.mk H
                                    clear H
                                    have hnb50 := NB108_118.out
                                    have hnc50 := NB118_108.out
                                    have hcz51_0 : wr.cell? ⟨gb108, 0, none⟩ = some (.slice (some ad120) l0_0.length c0_0) := (blk_cell BK108.out 0).trans rfl
                                    have hcz51_1 : wr.cell? ⟨gb108, 1, none⟩ = some (.slice A0_1 l0_1.length c0_1) := (blk_cell BK108.out 1).trans rfl
                                    have hcz51_2 : wr.cell? ⟨gb108, 2, none⟩ = some (.bool a0_2) := (blk_cell BK108.out 2).trans rfl
                                    have hfz51_0 := blk_frozen BK108.out 0
                                    have hfz51_1 := blk_frozen BK108.out 1
                                    have hfz51_2 := blk_frozen BK108.out 2
                                    have p121 : 0 ≤ (x11_3 : Int) := of_decide_eq_true (by first | (with_reducible assumption) | assumption)
                                    have q121 : x11_3 < (l0_1.length : Int) := of_decide_eq_true (by first | (with_reducible assumption) | assumption)
                                    obtain ⟨ad121, e121, hx121_0, hx121_1⟩ := at_T31 HR0_1.out x11_3 p121 q121
                                    cases e121
                                    replace hx121_0 := (HB.out.cell (World.block_lt_of_cell? w _ hx121_0)).trans hx121_0
                                    replace hx121_1 := (HB.out.cell (World.block_lt_of_cell? w _ hx121_1)).trans hx121_1
                                    replace p121 := eq_true p121
                                    replace q121 := eq_true q121
                                    have p122 : 0 ≤ (x11_3 : Int) := of_decide_eq_true (by first | (with_reducible assumption) | assumption)
                                    have q122 : x11_3 < (l0_1.length : Int) := of_decide_eq_true (by first | (with_reducible assumption) | assumption)
                                    obtain ⟨ad122, e122, hx122_0, hx122_1⟩ := at_T31 HR0_1.out x11_3 p122 q122
                                    obtain rfl : ad121 = ad122 := (by injection e122)
                                    replace hx122_0 := (HB.out.cell (World.block_lt_of_cell? w _ hx122_0)).trans hx122_0
                                    replace hx122_1 := (HB.out.cell (World.block_lt_of_cell? w _ hx122_1)).trans hx122_1
                                    replace p122 := eq_true p122
                                    replace q122 := eq_true q122
                                    have hcz52_0 : wr.cell? ⟨gb118, 0, none⟩ = some (.slice (some ad119) t111.length co20) := (blk_cell BK118.out 0).trans rfl
                                    have hcz52_1 : wr.cell? ⟨gb118, 1, none⟩ = some (.slice Ao23 t114.length co23) := (blk_cell BK118.out 1).trans rfl
                                    have hcz52_2 : wr.cell? ⟨gb118, 2, none⟩ = some (.bool t117) := (blk_cell BK118.out 2).trans rfl
                                    have hfz52_0 := blk_frozen BK118.out 0
                                    have hfz52_1 := blk_frozen BK118.out 1
                                    have hfz52_2 := blk_frozen BK118.out 2
                                    have p123 : 0 ≤ (a2 : Int) := of_decide_eq_true (by first | (with_reducible assumption) | assumption)
                                    have q123 : a2 < (t111.length : Int) := of_decide_eq_true (by first | (with_reducible assumption) | assumption)
                                    obtain ⟨ad123, e123, hx123_0⟩ := Kd.at_string (Kd.R_reads' HO_119000.out).2.2 a2 p123 q123
                                    obtain rfl : ad119 = ad123 := (by injection e123)
                                    replace p123 := eq_true p123
                                    replace q123 := eq_true q123
                                    go_wp2
                                    repeat (go_quiet (fail); try go_wp2)
                                    go_roundg k3
                                    case measure => have := HJ5.out; have := HJ15.out; have := HK3.out; omega
                                    case rel => exact ⟨((((rd_T31 l0_1 x11_3).f1).toList == (rdOf ByteArray.empty t111 a2).toList)), (wrap64 (x11_3 + 1)), (by first | rfl | (simp; done) | (simp [*]; done)), (by first | rfl | (simp; done) | (simp [*]; done)), H', ⟨by have := HJ5.out; have := HJ15.out; have := HK3.out; omega⟩, ⟨by (with_reducible repeat (first | apply Kd.R_alloc | apply Kd.R_drewN | apply Kd.R_drew)); exact HO_119000.out⟩, ⟨by (with_reducible repeat (first | apply Kd.R_alloc | apply Kd.R_drewN | apply Kd.R_drew)); exact HO_119001.out⟩, ⟨by (with_reducible repeat (first | refine blk_drewN ?_ _ | refine blk_drew ?_ | refine blk_alloc ?_ _)); exact BK108.out⟩, ⟨by (with_reducible repeat (first | refine blk_drewN ?_ _ | refine blk_drew ?_ | refine blk_alloc ?_ _)); exact BK118.out⟩, ⟨by repeat (first | (with_reducible first | exact HB.out | apply below_alloc | apply pw_below_drewN | apply below_drew1 | refine below_set ?_ GE108.out | refine below_set ?_ GE118.out) | exact HB.out)⟩⟩
                                  · rw [if_neg c49] at H
                                    exact absurd H (by simp)
                                · rw [if_neg c48] at H
                                  exact absurd H (by simp)
                              · rw [if_neg c47] at H
                                have c47b0 : (((rd_T31 l0_1 x11_3).f0) == a2) = false := beq_eq_false_iff_ne.mpr c47
                                have c47b1 : (((rd_T31 l0_1 x11_3).f0) != a2) = true := bne_iff_ne.mpr c47
                                have H' := Aside0.mk H
                                clear H
                                have hnb53 := NB108_118.out
                                have hnc53 := NB118_108.out
                                have hcz54_0 : wr.cell? ⟨gb108, 0, none⟩ = some (.slice (some ad120) l0_0.length c0_0) := (blk_cell BK108.out 0).trans rfl
                                have hcz54_1 : wr.cell? ⟨gb108, 1, none⟩ = some (.slice A0_1 l0_1.length c0_1) := (blk_cell BK108.out 1).trans rfl
                                have hcz54_2 : wr.cell? ⟨gb108, 2, none⟩ = some (.bool a0_2) := (blk_cell BK108.out 2).trans rfl
                                have hfz54_0 := blk_frozen BK108.out 0
                                have hfz54_1 := blk_frozen BK108.out 1
                                have hfz54_2 := blk_frozen BK108.out 2
                                have p121 : 0 ≤ (x11_3 : Int) := of_decide_eq_true (by first | (with_reducible assumption) | assumption)
                                have q121 : x11_3 < (l0_1.length : Int) := of_decide_eq_true (by first | (with_reducible assumption) | assumption)
                                obtain ⟨ad121, e121, hx121_0, hx121_1⟩ := at_T31 HR0_1.out x11_3 p121 q121
                                cases e121
                                replace hx121_0 := (HB.out.cell (World.block_lt_of_cell? w _ hx121_0)).trans hx121_0
                                replace hx121_1 := (HB.out.cell (World.block_lt_of_cell? w _ hx121_1)).trans hx121_1
                                replace p121 := eq_true p121
                                replace q121 := eq_true q121
                                go_wp2
                                repeat (go_quiet (fail); try go_wp2)
                                go_roundg k3
                                case measure => have := HJ5.out; have := HJ15.out; have := HK3.out; omega
                                case rel => exact ⟨(false), (wrap64 (x11_3 + 1)), (by first | rfl | (simp; done) | (simp [*]; done)), (by first | rfl | (simp; done) | (simp [*]; done)), H', ⟨by have := HJ5.out; have := HJ15.out; have := HK3.out; omega⟩, ⟨by (with_reducible repeat (first | apply Kd.R_alloc | apply Kd.R_drewN | apply Kd.R_drew)); exact HO_119000.out⟩, ⟨by (with_reducible repeat (first | apply Kd.R_alloc | apply Kd.R_drewN | apply Kd.R_drew)); exact HO_119001.out⟩, ⟨by (with_reducible repeat (first | refine blk_drewN ?_ _ | refine blk_drew ?_ | refine blk_alloc ?_ _)); exact BK108.out⟩, ⟨by (with_reducible repeat (first | refine blk_drewN ?_ _ | refine blk_drew ?_ | refine blk_alloc ?_ _)); exact BK118.out⟩, ⟨by repeat (first | (with_reducible first | exact HB.out | apply below_alloc | apply pw_below_drewN | apply below_drew1 | refine below_set ?_ GE108.out | refine below_set ?_ GE118.out) | exact HB.out)⟩⟩
                            · rw [if_neg c46] at H
                              exact absurd H (by simp)
                        · rw [if_neg c42] at H
                          have c42b0 : decide (x11_3 < (l0_1.length : Int)) = false := decide_eq_false c42
                          clear c42
                          by_cases c55 : t109 = true
                          · subst c55
                            have H1 : (some x10_3) = some r := by rw [if_pos rfl] at H; exact H
                            clear H
                            have H := H1
                            clear H1
                            obtain rfl := Option.some.inj H
                            have hnb56 := NB108_118.out
                            have hnc56 := NB118_108.out
                            have hcz57_0 : wr.cell? ⟨gb108, 0, none⟩ = some (.slice (some ad120) l0_0.length c0_0) := (blk_cell BK108.out 0).trans rfl
                            have hcz57_1 : wr.cell? ⟨gb108, 1, none⟩ = some (.slice A0_1 l0_1.length c0_1) := (blk_cell BK108.out 1).trans rfl
                            have hcz57_2 : wr.cell? ⟨gb108, 2, none⟩ = some (.bool a0_2) := (blk_cell BK108.out 2).trans rfl
                            have hfz57_0 := blk_frozen BK108.out 0
                            have hfz57_1 := blk_frozen BK108.out 1
                            have hfz57_2 := blk_frozen BK108.out 2
                            go_wp2
                            repeat (go_quiet (fail); try go_wp2)
                            go_ret
                            exact ⟨by first | rfl | (simp [errW_none, errW_some] <;> rfl) | (simp [*, errW_none, errW_some] <;> rfl), by repeat (first | (with_reducible first | exact HB.out | apply below_alloc | apply pw_below_drewN | apply below_drew1 | refine below_set ?_ GE108.out | refine below_set ?_ GE118.out) | exact HB.out)⟩
                          · replace c55 := Bool.eq_false_iff.mpr c55
                            subst c55
                            have H1 : (some false) = some r := by rw [if_neg (show ¬ (false = true) by decide)] at H; exact H
                            clear H
                            have H := H1
                            clear H1
                            obtain rfl := Option.some.inj H
                            have hnb58 := NB108_118.out
                            have hnc58 := NB118_108.out
                            have hcz59_0 : wr.cell? ⟨gb108, 0, none⟩ = some (.slice (some ad120) l0_0.length c0_0) := (blk_cell BK108.out 0).trans rfl
                            have hcz59_1 : wr.cell? ⟨gb108, 1, none⟩ = some (.slice A0_1 l0_1.length c0_1) := (blk_cell BK108.out 1).trans rfl
                            have hcz59_2 : wr.cell? ⟨gb108, 2, none⟩ = some (.bool a0_2) := (blk_cell BK108.out 2).trans rfl
                            have hfz59_0 := blk_frozen BK108.out 0
                            have hfz59_1 := blk_frozen BK108.out 1
                            have hfz59_2 := blk_frozen BK108.out 2
                            go_wp2
                            repeat (go_quiet (fail); try go_wp2)
                            go_ret
                            exact ⟨by first | rfl | (simp [errW_none, errW_some] <;> rfl) | (simp [*, errW_none, errW_some] <;> rfl), by repeat (first | (with_reducible first | exact HB.out | apply below_alloc | apply pw_below_drewN | apply below_drew1 | refine below_set ?_ GE108.out | refine below_set ?_ GE118.out) | exact HB.out)⟩
                  · rw [if_neg c38] at H
                    exact absurd H (by simp)
                · rw [if_neg c37] at H
                  exact absurd H (by simp)
              · rw [if_neg c36] at H
                exact absurd H (by simp)

-- GIVEN: function 12 (disk_Write): its Lean function and its contract stand in a text of this session's

/-! ### copyholdref04_filled: function 32 -/
def copyholdref04_filled.l0 : Nat → ByteArray → Option (ByteArray)
  | 0, _ => none
  | k + 1, x0 => if (x0.size : Int) < 64 then (if x0.size + 1 ≤ 9223372036854775807 then (copyholdref04_filled.l0 k (x0 ++ (⟨#[0]⟩ : ByteArray))) else (none)) else (some x0)
def copyholdref04_filled.f (k : Nat) (a0 : ByteArray) : Option (ByteArray) := copyholdref04_filled.l0 k a0
theorem copyholdref04_filled.mono_l : ∀ k, (∀ y0, LeO (copyholdref04_filled.l0 k y0) (copyholdref04_filled.l0 (k + 1) y0))
  | 0 => fun _ r h => by simp [copyholdref04_filled.l0] at h
  | k + 1 => by
    have ih0 := copyholdref04_filled.mono_l k
    · intro y0
      unfold copyholdref04_filled.l0
      repeat' first
      | (with_reducible exact ih0 _)
      | (with_reducible exact LeO.refl _)
      | (with_reducible exact LeO.none _)
      | (with_reducible refine LeO.ite ?_ ?_)
      | (with_reducible refine LeO.bind ?_ (fun _ => ?_))
      | exact ih0 _
      | exact LeO.none _
      | refine LeO.ite ?_ ?_
      | refine LeO.bind ?_ (fun _ => ?_)
theorem copyholdref04_filled.mono : ∀ a0 k, LeO (copyholdref04_filled.f k a0) (copyholdref04_filled.f (k + 1) a0) := by
  intro a0 k
  have ih0 := copyholdref04_filled.mono_l k
  unfold copyholdref04_filled.f
  repeat' first
      | (with_reducible exact ih0 _)
      | (with_reducible exact LeO.refl _)
      | (with_reducible exact LeO.none _)
      | (with_reducible refine LeO.ite ?_ ?_)
      | (with_reducible refine LeO.bind ?_ (fun _ => ?_))
      | exact ih0 _
      | exact LeO.none _
      | refine LeO.ite ?_ ?_
      | refine LeO.bind ?_ (fun _ => ?_)
set_option maxHeartbeats 8000000 in
set_option maxRecDepth 100000 in
theorem copyholdref04_filled.calls (k : Nat) (a0 : ByteArray) (r : ByteArray) (w : World) (h : copyholdref04_filled.f k a0 = some r) :
    Calls Try.prog 32 #[.string a0] w fun e w' => e = .returned (.string r) ∧ Drawn0 w w' := by
  have H : (copyholdref04_filled.l0 k a0) = some r := h
  clear h
  have H' := Aside0.mk H
  clear H
  go_enter Try.func32, Try.ntmps32
  go_wp2
  go_loopg [0] k (fun kq v0 w' => ∃ (x0_1 : ByteArray), v0 = .string x0_1 ∧ Aside0 (copyholdref04_filled.l0 kq x0_1 = some r) ∧ Aside0 (kq ≤ k) ∧ Drawn0 w w')
  case atStart => exact ⟨(a0), (by first | rfl | (simp; done) | (simp [*]; done)), H', ⟨Nat.le_refl _⟩, by repeat (first | exact Drawn0.refl _ | apply Drawn0.step)⟩
  case round =>
    clear H'
    obtain ⟨x0_1, rfl, HA, HK1, ⟨m1, rfl⟩⟩ := hrel
    cases gk with
    | zero => exact absurd HA.out (by simp [copyholdref04_filled.l0])
    | succ k1 =>
      have H := HA.out
      clear HA
      simp only [copyholdref04_filled.l0] at H
      by_cases c2 : (x0_1.size : Int) < 64
      · rw [if_pos c2] at H
        have c2b0 : decide ((x0_1.size : Int) < 64) = true := decide_eq_true c2
        have c2b1 : decide (x0_1.size < 64) = true := decide_eq_true (by omega)
        clear c2
        by_cases c3 : x0_1.size + 1 ≤ 9223372036854775807
        · rw [if_pos c3] at H
          have c3b0 := eq_true c3
          have c3b1 : decide (x0_1.size + 1 ≤ 9223372036854775807) = true := decide_eq_true c3
          try have c3b2 : (9223372036854775807 < x0_1.size + 1) = False := eq_false (Nat.not_lt.2 c3)
          have H' := Aside0.mk H
          clear H
          go_wp2
          go_roundg k1
          case measure => have := HK1.out; omega
          case rel => exact ⟨(x0_1 ++ (⟨#[0]⟩ : ByteArray)), (by first | rfl | (simp; done) | (simp [*]; done)), H', ⟨by have := HK1.out; omega⟩, by repeat (first | exact Drawn0.refl _ | apply Drawn0.step)⟩
        · rw [if_neg c3] at H
          exact absurd H (by simp)
      · rw [if_neg c2] at H
        have c2b0 : decide ((x0_1.size : Int) < 64) = false := decide_eq_false c2
        have c2b1 : decide (x0_1.size < 64) = false := decide_eq_false (by omega)
        clear c2
        obtain rfl := Option.some.inj H
        go_wp2
        go_ret
        exact ⟨by first | rfl | (simp; done) | (simp [*]; done), by repeat (first | exact Drawn0.refl _ | apply Drawn0.step)⟩

end Go.Proofs.Ytoknncbdfdgfjaa.Q
