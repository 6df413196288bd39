/- The machine's side of laws of this seat: Go functions as Lean functions, and the proof that a call of each comes to what its function says (written by a program of this session, px.py, that runs the kit's print). -/
import Derived.Test.YtoknncbdfdgfjaaDiskF
import Derived.Test.YtoknncbdfdgfjaaQ0
import Derived.Test.YtoknncbdfdgfjaaQ2
import Derived.Test.YtoknncbdfdgfjaaQ5
namespace Go.Proofs.Ytoknncbdfdgfjaa.Q
open Go.RowKit Go.Proofs.YtoknncbdfdgfjaaW.PrintWords Go.Proofs.YtoknncbdfdgfjaaW.PrintLast Go.Proofs.YtoknncbdfdgfjaaW.PrintMore
attribute [local go_sem] max2_int min2_int max_two min_two max_three min_three max_four min_four   -- for this text's walks alone
attribute [local go_sem high] Go.Proofs.Ytoknncbdfdgfjaa.px_xor_u8 Go.Proofs.Ytoknncbdfdgfjaa.px_xor_u16 Go.Proofs.Ytoknncbdfdgfjaa.px_xor_u32 Go.Proofs.Ytoknncbdfdgfjaa.px_xor_u64
set_option linter.unusedVariables false
set_option linter.unusedSimpArgs false

/-! ### copyholdlaw04_DiskKeeps: function 5 -/
mutual
def copyholdlaw04_DiskKeeps.j0 : Nat → List Bool → Int → ByteArray → Bool → Bool → List ByteArray → List (S31) → Bool → Option (Bool)
  | 0, _, _, _, _, _, _, _, _ => none
  | k + 1, x4, x5, x6, x7, x32, x229000, x229001, x229002 => if x32 = true then (some x7) else ((disk_Flush.f x229000 x229001 x229002).bind fun bt231 => (copyholdlaw04_DiskKeeps.l0 k x4 x5 x6 x7 bt231.2.2.2 ([] : List Bool) 0 x229000 x229001 x229002 bt231.1 bt231.2.1 bt231.2.2.1))
def copyholdlaw04_DiskKeeps.l0 : Nat → List Bool → Int → ByteArray → Bool → Int → List Bool → Int → List ByteArray → List (S31) → Bool → List ByteArray → List (S31) → Bool → Option (Bool)
  | 0, _, _, _, _, _, _, _, _, _, _, _, _, _ => none
  | k + 1, x4, x5, x6, x7, x10, x11, x12, x229000, x229001, x229002, x240000, x240001, x240002 => if x12 < (x229001.length : Int) then (if x11.length < 140737488355328 then (copyholdlaw04_DiskKeeps.l0 k x4 x5 x6 x7 x10 (x11 ++ [true]) (wrap64 (x12 + 1)) x229000 x229001 x229002 x240000 x240001 x240002) else (none)) else ((disk_Write.f x229000 x229001 x229002 x5 x6).bind fun bt243 => ((disk_Crash.f x240000 x240001 x240002 x4).bind fun bt252 => ((disk_Image.f x229000 x229001 x229002).bind fun t259 => ((copyholdref01_Strings.f k bt252.1 t259).bind fun t262 => (if t262 = true then ((disk_Crash.f x229000 x229001 x229002 x11).bind fun bt263 => ((disk_Image.f x229000 x229001 x229002).bind fun t270 => ((copyholdref01_Strings.f k bt263.1 t270).bind fun t273 => (if x7 = true then (if x10 = 0 then (if t273 = true then ((copyholdref04_Right.f k x240000 x240001 x240002).bind fun t274 => (if t274 = true then ((copyholdref04_Right.f k bt243.1 bt243.2.1 bt243.2.2.1).bind fun t275 => (if t275 = true then ((disk_Crash.f x229000 x229001 x229002 x4).bind fun bt276 => ((copyholdref04_Right.f k bt276.1 bt276.2.1 bt276.2.2).bind fun t283 => (some t283))) else (none))) else (none))) else (none)) else (none)) else (none))))) else (none))))))
end
def copyholdlaw04_DiskKeeps.f (k : Nat) (l0_0 : List ByteArray) (l0_1 : List (S31)) (a0_2 : Bool) (l0_3 : List Bool) (a0_4 : Int) (a0_5 : ByteArray) : Option (Bool) := (copyholdlaw04_shown.f).bind fun t229 => ((copyholdlaw04_few.f k l0_0 l0_1 a0_2).bind fun t230 => (if t230 = true then (copyholdlaw04_DiskKeeps.j0 k l0_3 a0_4 a0_5 t229 a0_2 l0_0 l0_1 a0_2) else (copyholdlaw04_DiskKeeps.j0 k l0_3 a0_4 a0_5 t229 true l0_0 l0_1 a0_2)))
theorem copyholdlaw04_DiskKeeps.mono_l : ∀ k, (∀ y0 y1 y2 y3 y4 y5 y6 y7, LeO (copyholdlaw04_DiskKeeps.j0 k y0 y1 y2 y3 y4 y5 y6 y7) (copyholdlaw04_DiskKeeps.j0 (k + 1) y0 y1 y2 y3 y4 y5 y6 y7)) ∧ (∀ y0 y1 y2 y3 y4 y5 y6 y7 y8 y9 y10 y11 y12, LeO (copyholdlaw04_DiskKeeps.l0 k y0 y1 y2 y3 y4 y5 y6 y7 y8 y9 y10 y11 y12) (copyholdlaw04_DiskKeeps.l0 (k + 1) y0 y1 y2 y3 y4 y5 y6 y7 y8 y9 y10 y11 y12))
  | 0 => ⟨fun _ _ _ _ _ _ _ _ r h => by simp [copyholdlaw04_DiskKeeps.j0] at h, fun _ _ _ _ _ _ _ _ _ _ _ _ _ r h => by simp [copyholdlaw04_DiskKeeps.l0] at h⟩
  | k + 1 => by
    obtain ⟨ih0, ih1⟩ := copyholdlaw04_DiskKeeps.mono_l k
    refine ⟨?_, ?_⟩
    · intro y0 y1 y2 y3 y4 y5 y6 y7
      unfold copyholdlaw04_DiskKeeps.j0
      repeat' first
      | (with_reducible exact ih0 _ _ _ _ _ _ _ _)
      | (with_reducible exact ih1 _ _ _ _ _ _ _ _ _ _ _ _ _)
      | (with_reducible exact copyholdlaw04_few.mono _ _ _ _)
      | (with_reducible exact copyholdref01_Strings.mono _ _ _)
      | (with_reducible exact copyholdref04_Right.mono _ _ _ _)
      | (with_reducible exact LeO.refl _)
      | (with_reducible exact LeO.none _)
      | (with_reducible refine LeO.ite ?_ ?_)
      | (with_reducible refine LeO.bind ?_ (fun _ => ?_))
      | exact ih0 _ _ _ _ _ _ _ _
      | exact ih1 _ _ _ _ _ _ _ _ _ _ _ _ _
      | exact copyholdlaw04_few.mono _ _ _ _
      | exact copyholdref01_Strings.mono _ _ _
      | exact copyholdref04_Right.mono _ _ _ _
      | exact LeO.none _
      | refine LeO.ite ?_ ?_
      | refine LeO.bind ?_ (fun _ => ?_)
    · intro y0 y1 y2 y3 y4 y5 y6 y7 y8 y9 y10 y11 y12
      unfold copyholdlaw04_DiskKeeps.l0
      repeat' first
      | (with_reducible exact ih0 _ _ _ _ _ _ _ _)
      | (with_reducible exact ih1 _ _ _ _ _ _ _ _ _ _ _ _ _)
      | (with_reducible exact copyholdlaw04_few.mono _ _ _ _)
      | (with_reducible exact copyholdref01_Strings.mono _ _ _)
      | (with_reducible exact copyholdref04_Right.mono _ _ _ _)
      | (with_reducible exact LeO.refl _)
      | (with_reducible exact LeO.none _)
      | (with_reducible refine LeO.ite ?_ ?_)
      | (with_reducible refine LeO.bind ?_ (fun _ => ?_))
      | exact ih0 _ _ _ _ _ _ _ _
      | exact ih1 _ _ _ _ _ _ _ _ _ _ _ _ _
      | exact copyholdlaw04_few.mono _ _ _ _
      | exact copyholdref01_Strings.mono _ _ _
      | exact copyholdref04_Right.mono _ _ _ _
      | exact LeO.none _
      | refine LeO.ite ?_ ?_
      | refine LeO.bind ?_ (fun _ => ?_)
theorem copyholdlaw04_DiskKeeps.mono : ∀ a0 a1 a2 a3 a4 a5 k, LeO (copyholdlaw04_DiskKeeps.f k a0 a1 a2 a3 a4 a5) (copyholdlaw04_DiskKeeps.f (k + 1) a0 a1 a2 a3 a4 a5) := by
  intro a0 a1 a2 a3 a4 a5 k
  obtain ⟨ih0, ih1⟩ := copyholdlaw04_DiskKeeps.mono_l k
  unfold copyholdlaw04_DiskKeeps.f
  repeat' first
      | (with_reducible exact ih0 _ _ _ _ _ _ _ _)
      | (with_reducible exact ih1 _ _ _ _ _ _ _ _ _ _ _ _ _)
      | (with_reducible exact copyholdlaw04_few.mono _ _ _ _)
      | (with_reducible exact copyholdref01_Strings.mono _ _ _)
      | (with_reducible exact copyholdref04_Right.mono _ _ _ _)
      | (with_reducible exact LeO.refl _)
      | (with_reducible exact LeO.none _)
      | (with_reducible refine LeO.ite ?_ ?_)
      | (with_reducible refine LeO.bind ?_ (fun _ => ?_))
      | exact ih0 _ _ _ _ _ _ _ _
      | exact ih1 _ _ _ _ _ _ _ _ _ _ _ _ _
      | exact copyholdlaw04_few.mono _ _ _ _
      | exact copyholdref01_Strings.mono _ _ _
      | exact copyholdref04_Right.mono _ _ _ _
      | exact LeO.none _
      | refine LeO.ite ?_ ?_
      | refine LeO.bind ?_ (fun _ => ?_)
def copyholdlaw04_DiskKeeps.T16 : Bool × List (List Nat × List Nat) := (true, [([], []), ([], []), ([0, 1], [0, 1]), ([2], [2]), ([], []), ([4, 2], [4]), ([3, 5, 5], [3, 5]), ([6, 6], [6]), ([7], [7]), ([7], [7]), ([8, 9, 7, 7], [7, 8, 9]), ([10, 7], [7, 10]), ([7], [7]), ([12, 10, 7], [7, 12]), ([11, 13, 13, 7], [7, 11, 13]), ([7, 14], [7, 14]), ([15, 14, 0, 1, 2, 3, 4, 5, 6, 7, 8, 9, 10, 11, 12, 13, 14, 15], [15])])
def copyholdlaw04_DiskKeeps.B16 : List Nat := [0, 0, 3, 7, 0, 23, 63, 127, 255, 255, 1023, 2047, 255, 6143, 16383, 32767, 65535]
theorem copyholdlaw04_DiskKeeps.tab16 : rtab .any (opsOf Try.f5 16) = copyholdlaw04_DiskKeeps.T16 := by kernel_rfl
theorem copyholdlaw04_DiskKeeps.bits16 : waitsOk copyholdlaw04_DiskKeeps.T16.2 copyholdlaw04_DiskKeeps.B16 = true := by kernel_rfl
set_option maxHeartbeats 8000000 in
set_option maxRecDepth 100000 in
theorem copyholdlaw04_DiskKeeps.calls (k : Nat) (A0_0 : Option Addr) (c0_0 : Nat) (l0_0 : List ByteArray) (A0_1 : Option Addr) (c0_1 : Nat) (l0_1 : List (S31)) (a0_2 : Bool) (A0_3 : Option Addr) (c0_3 : Nat) (l0_3 : List Bool) (a0_4 : Int) (a0_5 : ByteArray) (r : Bool) (w : World) (hr0_0 : Kd.C Kd.string w A0_0 l0_0.length l0_0) (hc0_0 : l0_0.length ≤ c0_0) (hr0_1 : Kd.C k31 w A0_1 l0_1.length l0_1) (hc0_1 : l0_1.length ≤ c0_1) (hr0_3 : Kd.C Kd.bool w A0_3 l0_3.length l0_3) (hc0_3 : l0_3.length ≤ c0_3) (h : copyholdlaw04_DiskKeeps.f k l0_0 l0_1 a0_2 l0_3 a0_4 a0_5 = some r) :
    Calls Try.prog 5 #[.agg #[.slice A0_0 l0_0.length c0_0, .slice A0_1 l0_1.length c0_1, .bool a0_2, .slice A0_3 l0_3.length c0_3, .int .i64 a0_4, .string a0_5]] w fun e w' => e = .returned (.bool r) ∧ Below w.heap.size w w' := by
  have hu45 := Try.underlying45
  have hu25 := Try.underlying25
  have HR0_0 := Aside0.mk hr0_0
  have HC0_0 := Aside0.mk hc0_0
  clear hr0_0 hc0_0
  have HR0_1 := Aside0.mk hr0_1
  have HC0_1 := Aside0.mk hc0_1
  clear hr0_1 hc0_1
  have HR0_3 := Aside0.mk hr0_3
  have HC0_3 := Aside0.mk hc0_3
  clear hr0_3 hc0_3
  have HB := Aside0.mk (Below.refl w.heap.size w)
  have H : ((copyholdlaw04_shown.f).bind fun t229 => ((copyholdlaw04_few.f k l0_0 l0_1 a0_2).bind fun t230 => (if t230 = true then (copyholdlaw04_DiskKeeps.j0 k l0_3 a0_4 a0_5 t229 a0_2 l0_0 l0_1 a0_2) else (copyholdlaw04_DiskKeeps.j0 k l0_3 a0_4 a0_5 t229 true l0_0 l0_1 a0_2)))) = some r := h
  clear h
  replace H := Option.bind_eq_some_iff.mp H
  obtain ⟨t229, A20, H⟩ := H
  replace H : ((copyholdlaw04_few.f k l0_0 l0_1 a0_2).bind fun t230 => (if t230 = true then (copyholdlaw04_DiskKeeps.j0 k l0_3 a0_4 a0_5 t229 a0_2 l0_0 l0_1 a0_2) else (copyholdlaw04_DiskKeeps.j0 k l0_3 a0_4 a0_5 t229 true l0_0 l0_1 a0_2))) = some r := H
  have A2 := Aside0.mk A20
  clear A20
  replace H := Option.bind_eq_some_iff.mp H
  obtain ⟨t230, A30, H⟩ := H
  replace H : (if t230 = true then (copyholdlaw04_DiskKeeps.j0 k l0_3 a0_4 a0_5 t229 a0_2 l0_0 l0_1 a0_2) else (copyholdlaw04_DiskKeeps.j0 k l0_3 a0_4 a0_5 t229 true l0_0 l0_1 a0_2)) = some r := H
  have A3 := Aside0.mk A30
  clear A30
  have HC4 := Aside0.mk H
  clear H
  go_enter Try.func5, Try.ntmps5
  go_upto_region 7 with (first | ((with_reducible refine gate_dst (N := 1) rfl ?_); refine box_event ?hg (N := 1) ?hd (cs := #[.slice A0_0 l0_0.length c0_0, .slice A0_1 l0_1.length c0_1, .bool a0_2, .slice A0_3 l0_3.length c0_3, .int .i64 a0_4, .string a0_5]) (t := 45) ?hr ?_; (case hd => rfl); (case hg => rfl); (case hr => first | (go_simp; done) | (go_simp; rfl)); intro gb227 hg w5 hbox hb; have n0_ := Aside0.mk (below_step (by repeat (first | (with_reducible first | exact HB.out | apply below_alloc | apply pw_below_drewN | apply below_drew1) | exact HB.out)) hb); have n1_ := Aside0.mk (hbox); have n2_ := Aside0.mk ((by rw [hg]; exact (below_size (by repeat (first | (with_reducible first | exact HB.out | apply below_alloc | apply pw_below_drewN | apply below_drew1) | exact HB.out))) : w.heap.size ≤ gb227)); have n3_ := Aside0.mk ((by rw [hg]; exact (below_size (by repeat (first | (with_reducible first | exact HB.out | apply below_alloc | apply pw_below_drewN | apply below_drew1) | exact HB.out))) : w.heap.size ≤ gb227)); clear HB; have HB := n0_; have BK227 := n1_; have GW227 := n2_; have GE227 := n3_; clear n0_ n1_ n2_ n3_; clear hb hbox hg; have hcz6_0 : w5.cell? ⟨gb227, 0, none⟩ = some (.slice A0_0 l0_0.length c0_0) := (blk_cell BK227.out 0).trans rfl; have hcz6_1 : w5.cell? ⟨gb227, 1, none⟩ = some (.slice A0_1 l0_1.length c0_1) := (blk_cell BK227.out 1).trans rfl; have hcz6_2 : w5.cell? ⟨gb227, 2, none⟩ = some (.bool a0_2) := (blk_cell BK227.out 2).trans rfl; have hcz6_3 : w5.cell? ⟨gb227, 3, none⟩ = some (.slice A0_3 l0_3.length c0_3) := (blk_cell BK227.out 3).trans rfl; have hcz6_4 : w5.cell? ⟨gb227, 4, none⟩ = some (.int .i64 a0_4) := (blk_cell BK227.out 4).trans rfl; have hcz6_5 : w5.cell? ⟨gb227, 5, none⟩ = some (.string a0_5) := (blk_cell BK227.out 5).trans rfl; have hfz6_0 := blk_frozen BK227.out 0; have hfz6_1 := blk_frozen BK227.out 1; have hfz6_2 := blk_frozen BK227.out 2; have hfz6_3 := blk_frozen BK227.out 3; have hfz6_4 := blk_frozen BK227.out 4; have hfz6_5 := blk_frozen BK227.out 5) | ((with_reducible refine gate_dst (N := 3) rfl ?_); refine box_event ?hg (N := 3) ?hd (cs := #[.slice none 0 0, .slice none 0 0, .bool false]) (t := 25) ?hr ?_; (case hd => rfl); (case hg => rfl); (case hr => first | (go_simp; done) | (go_simp; rfl)); intro gb228 hg w7 hbox hb; have n0_ := Aside0.mk (blk_below (g := gb227) (o := .cells #[.slice A0_0 l0_0.length c0_0, .slice A0_1 l0_1.length c0_1, .bool a0_2, .slice A0_3 l0_3.length c0_3, .int .i64 a0_4, .string a0_5] 45 (0, 0)) (by (with_reducible repeat (first | refine blk_drewN ?_ _ | refine blk_drew ?_ | refine blk_alloc ?_ _)); exact BK227.out) hb); have n1_ := Aside0.mk (below_step (by repeat (first | (with_reducible first | exact HB.out | apply below_alloc | apply pw_below_drewN | apply below_drew1 | refine below_set ?_ GE227.out) | exact HB.out)) hb); have n2_ := Aside0.mk (hbox); have n3_ := Aside0.mk ((by rw [hg]; exact (below_size (by repeat (first | (with_reducible first | exact HB.out | apply below_alloc | apply pw_below_drewN | apply below_drew1 | refine below_set ?_ GE227.out) | exact HB.out))) : w.heap.size ≤ gb228)); have n4_ := Aside0.mk ((by rw [hg]; exact (below_size (by repeat (first | (with_reducible first | exact HB.out | apply below_alloc | apply pw_below_drewN | apply below_drew1 | refine below_set ?_ GE227.out) | exact HB.out))) : w.heap.size ≤ gb228)); have n5_ := Aside0.mk ((by rw [hg]; exact Nat.ne_of_lt (blk_lt (g := gb227) (o := .cells #[.slice A0_0 l0_0.length c0_0, .slice A0_1 l0_1.length c0_1, .bool a0_2, .slice A0_3 l0_3.length c0_3, .int .i64 a0_4, .string a0_5] 45 (0, 0)) (by (with_reducible repeat (first | refine blk_drewN ?_ _ | refine blk_drew ?_ | refine blk_alloc ?_ _)); exact BK227.out)) : gb227 ≠ gb228)); have n6_ := Aside0.mk ((by rw [hg]; exact Nat.ne_of_gt (blk_lt (g := gb227) (o := .cells #[.slice A0_0 l0_0.length c0_0, .slice A0_1 l0_1.length c0_1, .bool a0_2, .slice A0_3 l0_3.length c0_3, .int .i64 a0_4, .string a0_5] 45 (0, 0)) (by (with_reducible repeat (first | refine blk_drewN ?_ _ | refine blk_drew ?_ | refine blk_alloc ?_ _)); exact BK227.out)) : gb228 ≠ gb227)); clear BK227; clear HB; have BK227 := n0_; have HB := n1_; have BK228 := n2_; have GW228 := n3_; have GE228 := n4_; have NB227_228 := n5_; have NB228_227 := n6_; clear n0_ n1_ n2_ n3_ n4_ n5_ n6_; clear hb hbox hg; have hnb8 := NB228_227.out; have hnc8 := NB227_228.out; have hcz9_0 : w7.cell? ⟨gb228, 0, none⟩ = some (.slice none 0 0) := (blk_cell BK228.out 0).trans rfl; have hcz9_1 : w7.cell? ⟨gb228, 1, none⟩ = some (.slice none 0 0) := (blk_cell BK228.out 1).trans rfl; have hcz9_2 : w7.cell? ⟨gb228, 2, none⟩ = some (.bool false) := (blk_cell BK228.out 2).trans rfl; have hfz9_0 := blk_frozen BK228.out 0; have hfz9_1 := blk_frozen BK228.out 1; have hfz9_2 := blk_frozen BK228.out 2; have hcz10_0 : w7.cell? ⟨gb227, 0, none⟩ = some (.slice A0_0 l0_0.length c0_0) := (blk_cell BK227.out 0).trans rfl; have hcz10_1 : w7.cell? ⟨gb227, 1, none⟩ = some (.slice A0_1 l0_1.length c0_1) := (blk_cell BK227.out 1).trans rfl; have hcz10_2 : w7.cell? ⟨gb227, 2, none⟩ = some (.bool a0_2) := (blk_cell BK227.out 2).trans rfl; have hcz10_3 : w7.cell? ⟨gb227, 3, none⟩ = some (.slice A0_3 l0_3.length c0_3) := (blk_cell BK227.out 3).trans rfl; have hcz10_4 : w7.cell? ⟨gb227, 4, none⟩ = some (.int .i64 a0_4) := (blk_cell BK227.out 4).trans rfl; have hcz10_5 : w7.cell? ⟨gb227, 5, none⟩ = some (.string a0_5) := (blk_cell BK227.out 5).trans rfl; have hfz10_0 := blk_frozen BK227.out 0; have hfz10_1 := blk_frozen BK227.out 1; have hfz10_2 := blk_frozen BK227.out 2; have hfz10_3 := blk_frozen BK227.out 3; have hfz10_4 := blk_frozen BK227.out 4; have hfz10_5 := blk_frozen BK227.out 5) | ((with_reducible refine gate_callee (f := 9) rfl ?_); refine goesL_ (some 24) rfl rfl Try.func9 (by kernel_rfl) rfl #[] rfl (by (try simp only [List.map_toArray, List.map_cons, List.map_nil]); first | done | rfl | (simp only [List.length_drop, List.length_take]; rfl)) ?_; (with_reducible refine (copyholdlaw04_shown.calls  t229 _ A2.out).mono ?_); rintro e w11 ⟨rfl, hb⟩; refine ⟨_, rfl, ?_⟩; have n0_ := Aside0.mk (blk_below (g := gb227) (o := .cells #[.slice A0_0 l0_0.length c0_0, .slice A0_1 l0_1.length c0_1, .bool a0_2, .slice A0_3 l0_3.length c0_3, .int .i64 a0_4, .string a0_5] 45 (0, 0)) (by (with_reducible repeat (first | refine blk_drewN ?_ _ | refine blk_drew ?_ | refine blk_alloc ?_ _)); refine blk_far ?_ NB227_228.out _; (with_reducible repeat (first | refine blk_drewN ?_ _ | refine blk_drew ?_ | refine blk_alloc ?_ _)); refine blk_far ?_ NB227_228.out _; (with_reducible repeat (first | refine blk_drewN ?_ _ | refine blk_drew ?_ | refine blk_alloc ?_ _)); refine blk_far ?_ NB227_228.out _; (with_reducible repeat (first | refine blk_drewN ?_ _ | refine blk_drew ?_ | refine blk_alloc ?_ _)); exact BK227.out) hb); have n1_ := Aside0.mk (blk_below (g := gb228) (o := .cells #[.slice A0_0 l0_0.length c0_0, .slice A0_1 l0_1.length c0_1, .bool a0_2] 25 (0, 0)) (by (with_reducible repeat (first | refine blk_drewN ?_ _ | refine blk_drew ?_ | refine blk_alloc ?_ _)); refine blk_put (cs := #[.slice A0_0 l0_0.length c0_0, .slice A0_1 l0_1.length c0_1, .bool false]) ?_ 2 _ rfl; (with_reducible repeat (first | refine blk_drewN ?_ _ | refine blk_drew ?_ | refine blk_alloc ?_ _)); refine blk_put (cs := #[.slice A0_0 l0_0.length c0_0, .slice none 0 0, .bool false]) ?_ 1 _ rfl; (with_reducible repeat (first | refine blk_drewN ?_ _ | refine blk_drew ?_ | refine blk_alloc ?_ _)); refine blk_put (cs := #[.slice none 0 0, .slice none 0 0, .bool false]) ?_ 0 _ rfl; (with_reducible repeat (first | refine blk_drewN ?_ _ | refine blk_drew ?_ | refine blk_alloc ?_ _)); exact BK228.out) hb); have n2_ := Aside0.mk (below_step (by repeat (first | (with_reducible first | exact HB.out | apply below_alloc | apply pw_below_drewN | apply below_drew1 | refine below_set ?_ GE227.out | refine below_set ?_ GE228.out) | exact HB.out)) hb); clear BK227; clear BK228; clear HB; have BK227 := n0_; have BK228 := n1_; have HB := n2_; clear n0_ n1_ n2_; (try clear hb); (try clear hb2); (try clear hk); (try clear hi); have hcz12_0 : w11.cell? ⟨gb228, 0, none⟩ = some (.slice A0_0 l0_0.length c0_0) := (blk_cell BK228.out 0).trans rfl; have hcz12_1 : w11.cell? ⟨gb228, 1, none⟩ = some (.slice A0_1 l0_1.length c0_1) := (blk_cell BK228.out 1).trans rfl; have hcz12_2 : w11.cell? ⟨gb228, 2, none⟩ = some (.bool a0_2) := (blk_cell BK228.out 2).trans rfl; have hfz12_0 := blk_frozen BK228.out 0; have hfz12_1 := blk_frozen BK228.out 1; have hfz12_2 := blk_frozen BK228.out 2) | ((with_reducible refine gate_callee (f := 10) rfl ?_); refine goesL_ (some 26) rfl rfl Try.func10 (by kernel_rfl) rfl #[.agg #[.slice A0_0 l0_0.length c0_0, .slice A0_1 l0_1.length c0_1, .bool a0_2]] rfl (by (try simp only [List.map_toArray, List.map_cons, List.map_nil]); first | done | rfl | (simp only [List.length_drop, List.length_take]; rfl)) ?_; (with_reducible refine (copyholdlaw04_few.calls k _ _ l0_0 _ _ l0_1 a0_2 t230 _ ?side1 ?side2 ?side3 ?side4 A3.out).mono ?_); (case side1 => repeat (first | exact (Kd.C_below HR0_0.out HB.out) | (with_reducible refine Kd.C_alloc ?_ _) | (with_reducible refine Kd.C_drewN ?_ _) | (with_reducible refine Kd.C_drew ?_))); (case side2 => exact HC0_0.out); (case side3 => repeat (first | exact (Kd.C_below HR0_1.out HB.out) | (with_reducible refine Kd.C_alloc ?_ _) | (with_reducible refine Kd.C_drewN ?_ _) | (with_reducible refine Kd.C_drew ?_))); (case side4 => exact HC0_1.out); rintro e w13 ⟨rfl, hb⟩; refine ⟨_, rfl, ?_⟩; have n0_ := Aside0.mk (blk_below (g := gb227) (o := .cells #[.slice A0_0 l0_0.length c0_0, .slice A0_1 l0_1.length c0_1, .bool a0_2, .slice A0_3 l0_3.length c0_3, .int .i64 a0_4, .string a0_5] 45 (0, 0)) (by (with_reducible repeat (first | refine blk_drewN ?_ _ | refine blk_drew ?_ | refine blk_alloc ?_ _)); exact BK227.out) hb); have n1_ := Aside0.mk (blk_below (g := gb228) (o := .cells #[.slice A0_0 l0_0.length c0_0, .slice A0_1 l0_1.length c0_1, .bool a0_2] 25 (0, 0)) (by (with_reducible repeat (first | refine blk_drewN ?_ _ | refine blk_drew ?_ | refine blk_alloc ?_ _)); exact BK228.out) hb); have n2_ := Aside0.mk (below_step (by repeat (first | (with_reducible first | exact HB.out | apply below_alloc | apply pw_below_drewN | apply below_drew1 | refine below_set ?_ GE227.out | refine below_set ?_ GE228.out) | exact HB.out)) hb); clear BK227; clear BK228; clear HB; have BK227 := n0_; have BK228 := n1_; have HB := n2_; clear n0_ n1_ n2_; (try clear hb); (try clear hb2); (try clear hk); (try clear hi)))
  (try simp only [Act.put, List.setIfInBounds_toArray, List.set_cons_zero, List.set_cons_succ])
  go_cut [32] (fun v32 wc => ∃ (kq : Nat) (x32_3 : Bool), v32 = .bool x32_3 ∧ Aside0 (copyholdlaw04_DiskKeeps.j0 kq l0_3 a0_4 a0_5 t229 x32_3 l0_0 l0_1 a0_2 = some r) ∧ Aside0 (kq ≤ k) ∧ Aside0 (wc.heap[gb227]? = some (.cells #[(.slice A0_0 l0_0.length c0_0), (.slice A0_1 l0_1.length c0_1), .bool a0_2, (.slice A0_3 l0_3.length c0_3), .int .i64 a0_4, .string a0_5] 45 (0, 0))) ∧ Aside0 (wc.heap[gb228]? = some (.cells #[(.slice A0_0 l0_0.length c0_0), (.slice A0_1 l0_1.length c0_1), .bool a0_2] 25 (0, 0))) ∧ Aside0 (Below w.heap.size w wc))
  case first =>
    have H := HC4.out
    clear HC4
    by_cases c14 : t230 = true
    · subst c14
      have H1 : (copyholdlaw04_DiskKeeps.j0 k l0_3 a0_4 a0_5 t229 a0_2 l0_0 l0_1 a0_2) = some r := by rw [if_pos rfl] at H; exact H
      clear H
      have H := H1
      clear H1
      have H' := Aside0.mk H
      clear H
      have hnb15 := NB228_227.out
      have hnc15 := NB227_228.out
      have hcz16_0 : w13.cell? ⟨gb228, 0, none⟩ = some (.slice A0_0 l0_0.length c0_0) := (blk_cell BK228.out 0).trans rfl
      have hcz16_1 : w13.cell? ⟨gb228, 1, none⟩ = some (.slice A0_1 l0_1.length c0_1) := (blk_cell BK228.out 1).trans rfl
      have hcz16_2 : w13.cell? ⟨gb228, 2, none⟩ = some (.bool a0_2) := (blk_cell BK228.out 2).trans rfl
      have hfz16_0 := blk_frozen BK228.out 0
      have hfz16_1 := blk_frozen BK228.out 1
      have hfz16_2 := blk_frozen BK228.out 2
      go_wp2
      go_meet
      case rel => exact ⟨_, (a0_2), (by first | rfl | (simp; done) | (simp [*]; done)), H', ⟨by first | omega | exact Nat.le_refl _⟩, ⟨by (with_reducible repeat (first | refine blk_drewN ?_ _ | refine blk_drew ?_ | refine blk_alloc ?_ _)); exact BK227.out⟩, ⟨by (with_reducible repeat (first | refine blk_drewN ?_ _ | refine blk_drew ?_ | refine blk_alloc ?_ _)); exact BK228.out⟩, ⟨by repeat (first | (with_reducible first | exact HB.out | apply below_alloc | apply pw_below_drewN | apply below_drew1 | refine below_set ?_ GE227.out | refine below_set ?_ GE228.out) | exact HB.out)⟩⟩
    · replace c14 := Bool.eq_false_iff.mpr c14
      subst c14
      have H1 : (copyholdlaw04_DiskKeeps.j0 k l0_3 a0_4 a0_5 t229 true l0_0 l0_1 a0_2) = some r := by rw [if_neg (show ¬ (false = true) by decide)] at H; exact H
      clear H
      have H := H1
      clear H1
      have H' := Aside0.mk H
      clear H
      go_wp2
      go_meet
      case rel => exact ⟨_, (true), (by first | rfl | (simp; done) | (simp [*]; done)), H', ⟨by first | omega | exact Nat.le_refl _⟩, ⟨by (with_reducible repeat (first | refine blk_drewN ?_ _ | refine blk_drew ?_ | refine blk_alloc ?_ _)); exact BK227.out⟩, ⟨by (with_reducible repeat (first | refine blk_drewN ?_ _ | refine blk_drew ?_ | refine blk_alloc ?_ _)); exact BK228.out⟩, ⟨by repeat (first | (with_reducible first | exact HB.out | apply below_alloc | apply pw_below_drewN | apply below_drew1 | refine below_set ?_ GE227.out | refine below_set ?_ GE228.out) | exact HB.out)⟩⟩
  case rest =>
    clear HC4
    try clear c1
    try clear p2
    try clear c5
    try clear c8
    try clear c9
    try clear c10
    try clear c14
    try clear c15
    try clear hcz10_0
    try clear hcz10_1
    try clear hcz10_2
    try clear hcz10_3
    try clear hcz10_4
    try clear hcz10_5
    try clear hcz12_0
    try clear hcz12_1
    try clear hcz12_2
    try clear hcz16_0
    try clear hcz16_1
    try clear hcz16_2
    try clear hcz6_0
    try clear hcz6_1
    try clear hcz6_2
    try clear hcz6_3
    try clear hcz6_4
    try clear hcz6_5
    try clear hcz9_0
    try clear hcz9_1
    try clear hcz9_2
    try clear hfz10_0
    try clear hfz10_1
    try clear hfz10_2
    try clear hfz10_3
    try clear hfz10_4
    try clear hfz10_5
    try clear hfz12_0
    try clear hfz12_1
    try clear hfz12_2
    try clear hfz16_0
    try clear hfz16_1
    try clear hfz16_2
    try clear hfz6_0
    try clear hfz6_1
    try clear hfz6_2
    try clear hfz6_3
    try clear hfz6_4
    try clear hfz6_5
    try clear hfz9_0
    try clear hfz9_1
    try clear hfz9_2
    obtain ⟨kq, x32_3, rfl, HA, HJ3, BK227, BK228, HB⟩ := hcut
    cases kq with
    | zero => exact absurd HA.out (by simp [copyholdlaw04_DiskKeeps.j0])
    | succ kj3 =>
      have H := HA.out
      clear HA
      simp only [copyholdlaw04_DiskKeeps.j0] at H
      by_cases c17 : x32_3 = true
      · subst c17
        have H1 : (some t229) = some r := by rw [if_pos rfl] at H; exact H
        clear H
        have H := H1
        clear H1
        obtain rfl := Option.some.inj H
        go_wp2
        go_ret
        exact ⟨by first | rfl | (simp [errW_none, errW_some] <;> rfl) | (simp [*, errW_none, errW_some] <;> rfl), by repeat (first | (with_reducible first | exact HB.out | apply below_alloc | apply pw_below_drewN | apply below_drew1 | refine below_set ?_ GE227.out | refine below_set ?_ GE228.out) | exact HB.out)⟩
      · replace c17 := Bool.eq_false_iff.mpr c17
        subst c17
        have H1 : ((disk_Flush.f l0_0 l0_1 a0_2).bind fun bt231 => (copyholdlaw04_DiskKeeps.l0 kj3 l0_3 a0_4 a0_5 t229 bt231.2.2.2 ([] : List Bool) 0 l0_0 l0_1 a0_2 bt231.1 bt231.2.1 bt231.2.2.1)) = some r := by rw [if_neg (show ¬ (false = true) by decide)] at H; exact H
        clear H
        have H := H1
        clear H1
        replace H := Option.bind_eq_some_iff.mp H
        obtain ⟨⟨t231, t234, t237, t238⟩, A180, H⟩ := H
        replace H : (copyholdlaw04_DiskKeeps.l0 kj3 l0_3 a0_4 a0_5 t229 t238 ([] : List Bool) 0 l0_0 l0_1 a0_2 t231 t234 t237) = some r := H
        have A18 := Aside0.mk A180
        clear A180
        have H' := Aside0.mk H
        clear H
        have hnb19 := NB228_227.out
        have hnc19 := NB227_228.out
        have hcz20_0 : wc.cell? ⟨gb228, 0, none⟩ = some (.slice A0_0 l0_0.length c0_0) := (blk_cell BK228.out 0).trans rfl
        have hcz20_1 : wc.cell? ⟨gb228, 1, none⟩ = some (.slice A0_1 l0_1.length c0_1) := (blk_cell BK228.out 1).trans rfl
        have hcz20_2 : wc.cell? ⟨gb228, 2, none⟩ = some (.bool a0_2) := (blk_cell BK228.out 2).trans rfl
        have hfz20_0 := blk_frozen BK228.out 0
        have hfz20_1 := blk_frozen BK228.out 1
        have hfz20_2 := blk_frozen BK228.out 2
        go_wp2_with (first | ((with_reducible refine gate_callee (f := 14) rfl ?_); refine goesL_ (some 36) rfl rfl Try.func14 (by kernel_rfl) rfl #[.agg #[.slice A0_0 l0_0.length c0_0, .slice A0_1 l0_1.length c0_1, .bool a0_2]] rfl (by (try simp only [List.map_toArray, List.map_cons, List.map_nil]); first | done | rfl | (simp only [List.length_drop, List.length_take]; rfl)) ?_; (with_reducible refine (disk_Flush.calls (fun k_ => k_ < w.heap.size) _ _ l0_0 (fun k_ => k_ < w.heap.size) _ _ l0_1 a0_2 t231 t234 t237 t238 _ ?side1 ?side2 A18.out).mono ?_); (case side1 => exact Kd.V_mk HC0_0.out (Kd.F_below (Kd.C_F Kd.heap_string HR0_0.out) (by repeat (first | (with_reducible first | exact HB.out | apply below_alloc | apply pw_below_drewN | apply below_drew1 | refine below_set ?_ GE227.out | refine below_set ?_ GE228.out) | exact HB.out)))); (case side2 => exact Kd.V_mk HC0_1.out (Kd.F_below (Kd.C_F k31_heap HR0_1.out) (by repeat (first | (with_reducible first | exact HB.out | apply below_alloc | apply pw_below_drewN | apply below_drew1 | refine below_set ?_ GE227.out | refine below_set ?_ GE228.out) | exact HB.out)))); rintro e w21 ⟨v232, v235, rfl, ho0, ho1, hb⟩; refine ⟨_, rfl, ?_⟩; have n0_ := Aside0.mk (Kd.V_lower (Kd.V_mono (ok' := fun k_ => k_ ≠ gb227 ∧ k_ ≠ gb228) ho0 (fun k_ hk_ => ⟨Or.elim hk_ (fun hs_ => Or.elim hs_ (fun hs_ => fun e_ => Nat.not_le.2 hs_ (by rw [e_]; exact GW227.out)) (fun hs_ => fun e_ => Nat.not_le.2 hs_ (by rw [e_]; exact GW227.out))) (fun hn_ => (Kd.freshB (g := gb227) (o := .cells #[.slice A0_0 l0_0.length c0_0, .slice A0_1 l0_1.length c0_1, .bool a0_2, .slice A0_3 l0_3.length c0_3, .int .i64 a0_4, .string a0_5] 45 (0, 0)) (by (with_reducible repeat (first | refine blk_drewN ?_ _ | refine blk_drew ?_ | refine blk_alloc ?_ _)); exact BK227.out) k_ hn_)), Or.elim hk_ (fun hs_ => Or.elim hs_ (fun hs_ => fun e_ => Nat.not_le.2 hs_ (by rw [e_]; exact GW228.out)) (fun hs_ => fun e_ => Nat.not_le.2 hs_ (by rw [e_]; exact GW228.out))) (fun hn_ => (Kd.freshB (g := gb228) (o := .cells #[.slice A0_0 l0_0.length c0_0, .slice A0_1 l0_1.length c0_1, .bool a0_2] 25 (0, 0)) (by (with_reducible repeat (first | refine blk_drewN ?_ _ | refine blk_drew ?_ | refine blk_alloc ?_ _)); exact BK228.out) k_ hn_))⟩)) (below_size (by repeat (first | (with_reducible first | exact HB.out | apply below_alloc | apply pw_below_drewN | apply below_drew1 | refine below_set ?_ GE227.out | refine below_set ?_ GE228.out) | exact HB.out)))); have n1_ := Aside0.mk (Kd.V_lower (Kd.V_mono (ok' := fun k_ => k_ ≠ gb227 ∧ k_ ≠ gb228) ho1 (fun k_ hk_ => ⟨Or.elim hk_ (fun hs_ => Or.elim hs_ (fun hs_ => fun e_ => Nat.not_le.2 hs_ (by rw [e_]; exact GW227.out)) (fun hs_ => fun e_ => Nat.not_le.2 hs_ (by rw [e_]; exact GW227.out))) (fun hn_ => (Kd.freshB (g := gb227) (o := .cells #[.slice A0_0 l0_0.length c0_0, .slice A0_1 l0_1.length c0_1, .bool a0_2, .slice A0_3 l0_3.length c0_3, .int .i64 a0_4, .string a0_5] 45 (0, 0)) (by (with_reducible repeat (first | refine blk_drewN ?_ _ | refine blk_drew ?_ | refine blk_alloc ?_ _)); exact BK227.out) k_ hn_)), Or.elim hk_ (fun hs_ => Or.elim hs_ (fun hs_ => fun e_ => Nat.not_le.2 hs_ (by rw [e_]; exact GW228.out)) (fun hs_ => fun e_ => Nat.not_le.2 hs_ (by rw [e_]; exact GW228.out))) (fun hn_ => (Kd.freshB (g := gb228) (o := .cells #[.slice A0_0 l0_0.length c0_0, .slice A0_1 l0_1.length c0_1, .bool a0_2] 25 (0, 0)) (by (with_reducible repeat (first | refine blk_drewN ?_ _ | refine blk_drew ?_ | refine blk_alloc ?_ _)); exact BK228.out) k_ hn_))⟩)) (below_size (by repeat (first | (with_reducible first | exact HB.out | apply below_alloc | apply pw_below_drewN | apply below_drew1 | refine below_set ?_ GE227.out | refine below_set ?_ GE228.out) | exact HB.out)))); have n2_ := Aside0.mk (blk_below (g := gb227) (o := .cells #[.slice A0_0 l0_0.length c0_0, .slice A0_1 l0_1.length c0_1, .bool a0_2, .slice A0_3 l0_3.length c0_3, .int .i64 a0_4, .string a0_5] 45 (0, 0)) (by (with_reducible repeat (first | refine blk_drewN ?_ _ | refine blk_drew ?_ | refine blk_alloc ?_ _)); exact BK227.out) hb); have n3_ := Aside0.mk (blk_below (g := gb228) (o := .cells #[.slice A0_0 l0_0.length c0_0, .slice A0_1 l0_1.length c0_1, .bool a0_2] 25 (0, 0)) (by (with_reducible repeat (first | refine blk_drewN ?_ _ | refine blk_drew ?_ | refine blk_alloc ?_ _)); exact BK228.out) hb); have n4_ := Aside0.mk (below_step (by repeat (first | (with_reducible first | exact HB.out | apply below_alloc | apply pw_below_drewN | apply below_drew1 | refine below_set ?_ GE227.out | refine below_set ?_ GE228.out) | exact HB.out)) hb); clear BK227; clear BK228; clear HB; have HO233 := n0_; have HO236 := n1_; have BK227 := n2_; have BK228 := n3_; have HB := n4_; clear n0_ n1_ n2_ n3_ n4_; (try clear hb); (try clear hb2); (try clear hk); (try clear hi); (try clear ho0); (try clear ho1)) | ((with_reducible refine gate_dst (N := 9) rfl ?_); refine box_event ?hg (N := 9) ?hd (cs := #[.slice none 0 0, .slice none 0 0, .bool false]) (t := 25) ?hr ?_; (case hd => rfl); (case hg => rfl); (case hr => first | (go_simp; done) | (go_simp; rfl)); intro gb239 hg w22 hbox hb; have n0_ := Aside0.mk (Kd.V_below (Kd.V_elderB (by (with_reducible repeat (first | apply Kd.V_alloc | apply Kd.V_drewN | apply Kd.V_drew)); exact HO233.out) gb239 (Nat.le_of_eq hg.symm)) hb); have n1_ := Aside0.mk (Kd.V_below (Kd.V_elderB (by (with_reducible repeat (first | apply Kd.V_alloc | apply Kd.V_drewN | apply Kd.V_drew)); exact HO236.out) gb239 (Nat.le_of_eq hg.symm)) hb); have n2_ := Aside0.mk (blk_below (g := gb227) (o := .cells #[.slice A0_0 l0_0.length c0_0, .slice A0_1 l0_1.length c0_1, .bool a0_2, .slice A0_3 l0_3.length c0_3, .int .i64 a0_4, .string a0_5] 45 (0, 0)) (by (with_reducible repeat (first | refine blk_drewN ?_ _ | refine blk_drew ?_ | refine blk_alloc ?_ _)); exact BK227.out) hb); have n3_ := Aside0.mk (blk_below (g := gb228) (o := .cells #[.slice A0_0 l0_0.length c0_0, .slice A0_1 l0_1.length c0_1, .bool a0_2] 25 (0, 0)) (by (with_reducible repeat (first | refine blk_drewN ?_ _ | refine blk_drew ?_ | refine blk_alloc ?_ _)); exact BK228.out) hb); have n4_ := Aside0.mk (below_step (by repeat (first | (with_reducible first | exact HB.out | apply below_alloc | apply pw_below_drewN | apply below_drew1 | refine below_set ?_ GE227.out | refine below_set ?_ GE228.out) | exact HB.out)) hb); have n5_ := Aside0.mk (hbox); have n6_ := Aside0.mk ((by rw [hg]; exact (below_size (by repeat (first | (with_reducible first | exact HB.out | apply below_alloc | apply pw_below_drewN | apply below_drew1 | refine below_set ?_ GE227.out | refine below_set ?_ GE228.out) | exact HB.out))) : w.heap.size ≤ gb239)); have n7_ := Aside0.mk ((by rw [hg]; exact (below_size (by repeat (first | (with_reducible first | exact HB.out | apply below_alloc | apply pw_below_drewN | apply below_drew1 | refine below_set ?_ GE227.out | refine below_set ?_ GE228.out) | exact HB.out))) : w.heap.size ≤ gb239)); have n8_ := Aside0.mk ((by rw [hg]; exact Nat.ne_of_lt (blk_lt (g := gb227) (o := .cells #[.slice A0_0 l0_0.length c0_0, .slice A0_1 l0_1.length c0_1, .bool a0_2, .slice A0_3 l0_3.length c0_3, .int .i64 a0_4, .string a0_5] 45 (0, 0)) (by (with_reducible repeat (first | refine blk_drewN ?_ _ | refine blk_drew ?_ | refine blk_alloc ?_ _)); exact BK227.out)) : gb227 ≠ gb239)); have n9_ := Aside0.mk ((by rw [hg]; exact Nat.ne_of_gt (blk_lt (g := gb227) (o := .cells #[.slice A0_0 l0_0.length c0_0, .slice A0_1 l0_1.length c0_1, .bool a0_2, .slice A0_3 l0_3.length c0_3, .int .i64 a0_4, .string a0_5] 45 (0, 0)) (by (with_reducible repeat (first | refine blk_drewN ?_ _ | refine blk_drew ?_ | refine blk_alloc ?_ _)); exact BK227.out)) : gb239 ≠ gb227)); have n10_ := Aside0.mk ((by rw [hg]; exact Nat.ne_of_lt (blk_lt (g := gb228) (o := .cells #[.slice A0_0 l0_0.length c0_0, .slice A0_1 l0_1.length c0_1, .bool a0_2] 25 (0, 0)) (by (with_reducible repeat (first | refine blk_drewN ?_ _ | refine blk_drew ?_ | refine blk_alloc ?_ _)); exact BK228.out)) : gb228 ≠ gb239)); have n11_ := Aside0.mk ((by rw [hg]; exact Nat.ne_of_gt (blk_lt (g := gb228) (o := .cells #[.slice A0_0 l0_0.length c0_0, .slice A0_1 l0_1.length c0_1, .bool a0_2] 25 (0, 0)) (by (with_reducible repeat (first | refine blk_drewN ?_ _ | refine blk_drew ?_ | refine blk_alloc ?_ _)); exact BK228.out)) : gb239 ≠ gb228)); clear HO233; clear HO236; clear BK227; clear BK228; clear HB; have HO233 := n0_; have HO236 := n1_; have BK227 := n2_; have BK228 := n3_; have HB := n4_; have BK239 := n5_; have GW239 := n6_; have GE239 := n7_; have NB227_239 := n8_; have NB239_227 := n9_; have NB228_239 := n10_; have NB239_228 := n11_; clear n0_ n1_ n2_ n3_ n4_ n5_ n6_ n7_ n8_ n9_ n10_ n11_; clear hb hbox hg; obtain ⟨Ao23, co23, eo23⟩ := Kd.V_slice HO233.out; subst eo23; have hnb24 := NB239_227.out; have hnc24 := NB227_239.out; have hnb25 := NB239_228.out; have hnc25 := NB228_239.out; have hcz26_0 : w22.cell? ⟨gb239, 0, none⟩ = some (.slice none 0 0) := (blk_cell BK239.out 0).trans rfl; have hcz26_1 : w22.cell? ⟨gb239, 1, none⟩ = some (.slice none 0 0) := (blk_cell BK239.out 1).trans rfl; have hcz26_2 : w22.cell? ⟨gb239, 2, none⟩ = some (.bool false) := (blk_cell BK239.out 2).trans rfl; have hfz26_0 := blk_frozen BK239.out 0; have hfz26_1 := blk_frozen BK239.out 1; have hfz26_2 := blk_frozen BK239.out 2; obtain ⟨Ao27, co27, eo27⟩ := Kd.V_slice HO236.out; subst eo27))
        go_loopg [11, 12] kj3 (fun kq v11 v12 w' => ∃ (x11_2 : List Bool) (x12_2 : Int), v12 = .int .i64 x12_2 ∧ Aside0 (copyholdlaw04_DiskKeeps.l0 kq l0_3 a0_4 a0_5 t229 t238 x11_2 x12_2 l0_0 l0_1 a0_2 t231 t234 t237 = some r) ∧ Aside0 (kq ≤ kj3) ∧ Aside0 (Kd.R Kd.bool 4 w' w.heap.size (fun _ => True) v11 x11_2) ∧ Aside0 (Kd.V Kd.string 9 w' w.heap.size (fun k_ => some k_ ≠ (v11 : Value).ownBlock ∧ k_ ≠ gb227 ∧ k_ ≠ gb228 ∧ k_ ≠ gb239) (.slice Ao23 t231.length co23) t231) ∧ Aside0 (Kd.V k31 31 w' w.heap.size (fun k_ => some k_ ≠ (v11 : Value).ownBlock ∧ k_ ≠ gb227 ∧ k_ ≠ gb228 ∧ k_ ≠ gb239) (.slice Ao27 t234.length co27) t234) ∧ Aside0 (w'.heap[gb227]? = some (.cells #[(.slice A0_0 l0_0.length c0_0), (.slice A0_1 l0_1.length c0_1), .bool a0_2, (.slice A0_3 l0_3.length c0_3), .int .i64 a0_4, .string a0_5] 45 (0, 0))) ∧ Aside0 (w'.heap[gb228]? = some (.cells #[(.slice A0_0 l0_0.length c0_0), (.slice A0_1 l0_1.length c0_1), .bool a0_2] 25 (0, 0))) ∧ Aside0 (w'.heap[gb239]? = some (.cells #[(.slice Ao23 t231.length co23), (.slice Ao27 t234.length co27), .bool t237] 25 (0, 0))) ∧ Aside0 (Below w.heap.size w w'))
        case atStart => exact ⟨(([] : List Bool)), (0), (by first | rfl | (simp; done) | (simp [*]; done)), H', ⟨Nat.le_refl _⟩, ⟨by first | exact Kd.R_nil _ _ _ _ _ | exact Kd.N_nil _ _ _ _ _ | exact Kd.V_nil _ _ _ _ _ | exact Kd.Q_nil _ _ _ _ _ | exact Kd.S_nil _ _ _ _ _⟩, ⟨by (with_reducible repeat (first | apply Kd.V_alloc | apply Kd.V_drewN | apply Kd.V_drew)); exact Kd.V_mono (Kd.V_far (p := ⟨gb239, 2, none⟩) (Kd.V_far (p := ⟨gb239, 1, none⟩) (Kd.V_far (p := ⟨gb239, 0, none⟩) (Kd.V_mono HO233.out (fun k_ hk => (⟨hk, hk.2⟩ : _ ∧ k_ ≠ gb239))) (fun _ hk => hk.2) (.slice Ao23 t231.length co23)) (fun _ hk => hk.2) (.slice Ao27 t234.length co27)) (fun _ hk => hk.2) (.bool t237)) (fun _ hk => ⟨(by simp [Value.ownBlock]), ⟨hk.1.1.1, ⟨hk.1.1.2, hk.1.2⟩⟩⟩)⟩, ⟨by (with_reducible repeat (first | apply Kd.V_alloc | apply Kd.V_drewN | apply Kd.V_drew)); exact Kd.V_mono (Kd.V_far (p := ⟨gb239, 2, none⟩) (Kd.V_far (p := ⟨gb239, 1, none⟩) (Kd.V_far (p := ⟨gb239, 0, none⟩) (Kd.V_mono HO236.out (fun k_ hk => (⟨hk, hk.2⟩ : _ ∧ k_ ≠ gb239))) (fun _ hk => hk.2) (.slice Ao23 t231.length co23)) (fun _ hk => hk.2) (.slice Ao27 t234.length co27)) (fun _ hk => hk.2) (.bool t237)) (fun _ hk => ⟨(by simp [Value.ownBlock]), ⟨hk.1.1.1, ⟨hk.1.1.2, hk.1.2⟩⟩⟩)⟩, ⟨by (with_reducible repeat (first | refine blk_drewN ?_ _ | refine blk_drew ?_ | refine blk_alloc ?_ _)); refine blk_far ?_ NB227_239.out _; (with_reducible repeat (first | refine blk_drewN ?_ _ | refine blk_drew ?_ | refine blk_alloc ?_ _)); refine blk_far ?_ NB227_239.out _; (with_reducible repeat (first | refine blk_drewN ?_ _ | refine blk_drew ?_ | refine blk_alloc ?_ _)); refine blk_far ?_ NB227_239.out _; (with_reducible repeat (first | refine blk_drewN ?_ _ | refine blk_drew ?_ | refine blk_alloc ?_ _)); exact BK227.out⟩, ⟨by (with_reducible repeat (first | refine blk_drewN ?_ _ | refine blk_drew ?_ | refine blk_alloc ?_ _)); refine blk_far ?_ NB228_239.out _; (with_reducible repeat (first | refine blk_drewN ?_ _ | refine blk_drew ?_ | refine blk_alloc ?_ _)); refine blk_far ?_ NB228_239.out _; (with_reducible repeat (first | refine blk_drewN ?_ _ | refine blk_drew ?_ | refine blk_alloc ?_ _)); refine blk_far ?_ NB228_239.out _; (with_reducible repeat (first | refine blk_drewN ?_ _ | refine blk_drew ?_ | refine blk_alloc ?_ _)); exact BK228.out⟩, ⟨by (with_reducible repeat (first | refine blk_drewN ?_ _ | refine blk_drew ?_ | refine blk_alloc ?_ _)); refine blk_put (cs := #[.slice Ao23 t231.length co23, .slice Ao27 t234.length co27, .bool false]) ?_ 2 _ rfl; (with_reducible repeat (first | refine blk_drewN ?_ _ | refine blk_drew ?_ | refine blk_alloc ?_ _)); refine blk_put (cs := #[.slice Ao23 t231.length co23, .slice none 0 0, .bool false]) ?_ 1 _ rfl; (with_reducible repeat (first | refine blk_drewN ?_ _ | refine blk_drew ?_ | refine blk_alloc ?_ _)); refine blk_put (cs := #[.slice none 0 0, .slice none 0 0, .bool false]) ?_ 0 _ rfl; (with_reducible repeat (first | refine blk_drewN ?_ _ | refine blk_drew ?_ | refine blk_alloc ?_ _)); exact BK239.out⟩, ⟨by repeat (first | (with_reducible first | exact HB.out | apply below_alloc | apply pw_below_drewN | apply below_drew1 | refine below_set ?_ GE227.out | refine below_set ?_ GE228.out | refine below_set ?_ GE239.out) | exact HB.out)⟩⟩
        case round =>
          clear H'
          try clear c1
          try clear c2
          try clear p2
          try clear c5
          try clear c8
          try clear c9
          try clear c10
          try clear c14
          try clear c15
          try clear c17
          try clear c19
          try clear c24
          try clear c25
          try clear hcz10_0
          try clear hcz10_1
          try clear hcz10_2
          try clear hcz10_3
          try clear hcz10_4
          try clear hcz10_5
          try clear hcz12_0
          try clear hcz12_1
          try clear hcz12_2
          try clear hcz16_0
          try clear hcz16_1
          try clear hcz16_2
          try clear hcz20_0
          try clear hcz20_1
          try clear hcz20_2
          try clear hcz26_0
          try clear hcz26_1
          try clear hcz26_2
          try clear hcz6_0
          try clear hcz6_1
          try clear hcz6_2
          try clear hcz6_3
          try clear hcz6_4
          try clear hcz6_5
          try clear hcz9_0
          try clear hcz9_1
          try clear hcz9_2
          try clear hfz10_0
          try clear hfz10_1
          try clear hfz10_2
          try clear hfz10_3
          try clear hfz10_4
          try clear hfz10_5
          try clear hfz12_0
          try clear hfz12_1
          try clear hfz12_2
          try clear hfz16_0
          try clear hfz16_1
          try clear hfz16_2
          try clear hfz20_0
          try clear hfz20_1
          try clear hfz20_2
          try clear hfz26_0
          try clear hfz26_1
          try clear hfz26_2
          try clear hfz6_0
          try clear hfz6_1
          try clear hfz6_2
          try clear hfz6_3
          try clear hfz6_4
          try clear hfz6_5
          try clear hfz9_0
          try clear hfz9_1
          try clear hfz9_2
          try clear p2
          obtain ⟨x11_2, x12_2, rfl, HA, HK2, HO_11, HO_240000, HO_240001, BK227, BK228, BK239, HB⟩ := hrel
          cases gk with
          | zero => exact absurd HA.out (by simp [copyholdlaw04_DiskKeeps.l0])
          | succ k2 =>
            have H := HA.out
            clear HA
            simp only [copyholdlaw04_DiskKeeps.l0] at H
            by_cases c28 : x12_2 < (l0_1.length : Int)
            · rw [if_pos c28] at H
              have c28b0 : decide (x12_2 < (l0_1.length : Int)) = true := decide_eq_true c28
              clear c28
              by_cases c29 : x11_2.length < 140737488355328
              · rw [if_pos c29] at H
                have LMc29 := Aside0.mk c29
                clear c29
                obtain ⟨y240, hy240⟩ : ∃ y_ : List Bool, y_ = (x11_2 ++ [true]) := ⟨_, rfl⟩
                replace H : (copyholdlaw04_DiskKeeps.l0 k2 l0_3 a0_4 a0_5 t229 t238 y240 (wrap64 (x12_2 + 1)) l0_0 l0_1 a0_2 t231 t234 t237) = some r := by first | (rw [hy240]; with_reducible exact H) | (have H2_ := (Option.bind_some _ _).symm.trans H; rw [hy240]; with_reducible exact H2_) | (have H2_ := (Option.bind_some _ _).symm.trans H; with_reducible exact H2_) | with_reducible exact H | (rw [hy240]; exact H) | exact H
                have Ny240 := Aside0.mk hy240
                clear hy240
                have H' := Aside0.mk H
                clear H
                have hnb30 := NB228_227.out
                have hnc30 := NB227_228.out
                have hnb31 := NB228_239.out
                have hnc31 := NB239_228.out
                have hcz32_0 : wr.cell? ⟨gb228, 0, none⟩ = some (.slice A0_0 l0_0.length c0_0) := (blk_cell BK228.out 0).trans rfl
                have hcz32_1 : wr.cell? ⟨gb228, 1, none⟩ = some (.slice A0_1 l0_1.length c0_1) := (blk_cell BK228.out 1).trans rfl
                have hcz32_2 : wr.cell? ⟨gb228, 2, none⟩ = some (.bool a0_2) := (blk_cell BK228.out 2).trans rfl
                have hfz32_0 := blk_frozen BK228.out 0
                have hfz32_1 := blk_frozen BK228.out 1
                have hfz32_2 := blk_frozen BK228.out 2
                go_wp2_with (first | ((with_reducible refine gate_builtin (b := .append) (xs := #[.tmp 46, .tmp 47]) rfl ?_); at_builtin; refine Kd.R_append Kd.bool (w0 := w) w.heap.size rfl (.tmp 46) (.tmp 47) 26 4 (.bool false) 1 rfl Try.underlying26 info4 rfl (by decide) (by omega) u11 x11_2 true [.bool true] (fun _ => True) (fun _ => False) rfl rfl ?aP (fun _ hk => hk.elim) ?aF ?aO ?aB ?aS ?aL ?_; (case aP => exact rfl); (case aB => exact (by repeat (first | (with_reducible first | exact HB.out | apply below_alloc | apply pw_below_drewN | apply below_drew1 | refine below_set ?_ GE227.out | refine below_set ?_ GE228.out | refine below_set ?_ GE239.out) | exact HB.out))); (case aF => exact (fun _ _ => trivial)); (case aO => exact (by (with_reducible repeat (first | apply Kd.R_alloc | apply Kd.R_drewN | apply Kd.R_drew)); exact HO_11.out)); (case aS => exact (below_size (by repeat (first | (with_reducible first | exact HB.out | apply below_alloc | apply pw_below_drewN | apply below_drew1 | refine below_set ?_ GE227.out | refine below_set ?_ GE228.out | refine below_set ?_ GE239.out) | exact HB.out)))); (case aL => have := LMc29.out; omega); intro v241 w33 ho hb hg hat; rw [← Ny240.out] at ho; have n0_ := Aside0.mk (Kd.V_afterv (ok := (fun k_ => k_ ≠ gb227 ∧ k_ ≠ gb228 ∧ k_ ≠ gb239)) (by (with_reducible repeat (first | apply Kd.V_alloc | apply Kd.V_drewN | apply Kd.V_drew)); exact Kd.V_mono HO_240000.out (fun _ hk => ⟨⟨hk.2.1, ⟨hk.2.2.1, hk.2.2.2⟩⟩, hk.1⟩)) hg hat); have n1_ := Aside0.mk (Kd.V_afterv (ok := (fun k_ => k_ ≠ gb227 ∧ k_ ≠ gb228 ∧ k_ ≠ gb239)) (by (with_reducible repeat (first | apply Kd.V_alloc | apply Kd.V_drewN | apply Kd.V_drew)); exact Kd.V_mono HO_240001.out (fun _ hk => ⟨⟨hk.2.1, ⟨hk.2.2.1, hk.2.2.2⟩⟩, hk.1⟩)) hg hat); have n2_ := Aside0.mk (blk_grown (g := gb227) (o := .cells #[.slice A0_0 l0_0.length c0_0, .slice A0_1 l0_1.length c0_1, .bool a0_2, .slice A0_3 l0_3.length c0_3, .int .i64 a0_4, .string a0_5] 45 (0, 0)) (by (with_reducible repeat (first | refine blk_drewN ?_ _ | refine blk_drew ?_ | refine blk_alloc ?_ _)); exact BK227.out) hg (Kd.R_ne HO_11.out BK227.out (by decide))); have n3_ := Aside0.mk (blk_grown (g := gb228) (o := .cells #[.slice A0_0 l0_0.length c0_0, .slice A0_1 l0_1.length c0_1, .bool a0_2] 25 (0, 0)) (by (with_reducible repeat (first | refine blk_drewN ?_ _ | refine blk_drew ?_ | refine blk_alloc ?_ _)); exact BK228.out) hg (Kd.R_ne HO_11.out BK228.out (by decide))); have n4_ := Aside0.mk (blk_grown (g := gb239) (o := .cells #[.slice Ao23 t231.length co23, .slice Ao27 t234.length co27, .bool t237] 25 (0, 0)) (by (with_reducible repeat (first | refine blk_drewN ?_ _ | refine blk_drew ?_ | refine blk_alloc ?_ _)); exact BK239.out) hg (Kd.R_ne HO_11.out BK239.out (by decide))); have n5_ := Aside0.mk (hb); have n6_ := Aside0.mk (ho); clear HO_240000; clear HO_240001; clear BK227; clear BK228; clear BK239; clear HB; clear HO_11; have HO_240000 := n0_; have HO_240001 := n1_; have BK227 := n2_; have BK228 := n3_; have BK239 := n4_; have HB := n5_; have HO242 := n6_; clear n0_ n1_ n2_ n3_ n4_ n5_ n6_; clear ho hb hg hat))
                go_roundg k2
                case measure => have := HJ3.out; have := HK2.out; omega
                case rel => exact ⟨(y240), (wrap64 (x12_2 + 1)), (by first | rfl | (simp; done) | (simp [*]; done)), H', ⟨by have := HJ3.out; have := HK2.out; omega⟩, ⟨by (with_reducible repeat (first | apply Kd.R_alloc | apply Kd.R_drewN | apply Kd.R_drew)); exact HO242.out⟩, ⟨by (with_reducible repeat (first | apply Kd.V_alloc | apply Kd.V_drewN | apply Kd.V_drew)); exact Kd.V_mono HO_240000.out (fun _ hk => ⟨hk.2, ⟨hk.1.1, ⟨hk.1.2.1, hk.1.2.2⟩⟩⟩)⟩, ⟨by (with_reducible repeat (first | apply Kd.V_alloc | apply Kd.V_drewN | apply Kd.V_drew)); exact Kd.V_mono HO_240001.out (fun _ hk => ⟨hk.2, ⟨hk.1.1, ⟨hk.1.2.1, hk.1.2.2⟩⟩⟩)⟩, ⟨by (with_reducible repeat (first | refine blk_drewN ?_ _ | refine blk_drew ?_ | refine blk_alloc ?_ _)); exact BK227.out⟩, ⟨by (with_reducible repeat (first | refine blk_drewN ?_ _ | refine blk_drew ?_ | refine blk_alloc ?_ _)); exact BK228.out⟩, ⟨by (with_reducible repeat (first | refine blk_drewN ?_ _ | refine blk_drew ?_ | refine blk_alloc ?_ _)); exact BK239.out⟩, ⟨by repeat (first | (with_reducible first | exact HB.out | apply below_alloc | apply pw_below_drewN | apply below_drew1 | refine below_set ?_ GE227.out | refine below_set ?_ GE228.out | refine below_set ?_ GE239.out) | exact HB.out)⟩⟩
              · rw [if_neg c29] at H
                exact absurd H (by simp)
            · rw [if_neg c28] at H
              have c28b0 : decide (x12_2 < (l0_1.length : Int)) = false := decide_eq_false c28
              clear c28
              replace H := Option.bind_eq_some_iff.mp H
              obtain ⟨⟨t243, t246, t249, t250⟩, A340, H⟩ := H
              replace H : ((disk_Crash.f t231 t234 t237 l0_3).bind fun bt252 => ((disk_Image.f l0_0 l0_1 a0_2).bind fun t259 => ((copyholdref01_Strings.f k2 bt252.1 t259).bind fun t262 => (if t262 = true then ((disk_Crash.f l0_0 l0_1 a0_2 x11_2).bind fun bt263 => ((disk_Image.f l0_0 l0_1 a0_2).bind fun t270 => ((copyholdref01_Strings.f k2 bt263.1 t270).bind fun t273 => (if t229 = true then (if t238 = 0 then (if t273 = true then ((copyholdref04_Right.f k2 t231 t234 t237).bind fun t274 => (if t274 = true then ((copyholdref04_Right.f k2 t243 t246 t249).bind fun t275 => (if t275 = true then ((disk_Crash.f l0_0 l0_1 a0_2 l0_3).bind fun bt276 => ((copyholdref04_Right.f k2 bt276.1 bt276.2.1 bt276.2.2).bind fun t283 => (some t283))) else (none))) else (none))) else (none)) else (none)) else (none))))) else (none))))) = some r := H
              have A34 := Aside0.mk A340
              clear A340
              replace H := Option.bind_eq_some_iff.mp H
              obtain ⟨⟨t252, t255, t258⟩, A350, H⟩ := H
              replace H : ((disk_Image.f l0_0 l0_1 a0_2).bind fun t259 => ((copyholdref01_Strings.f k2 t252 t259).bind fun t262 => (if t262 = true then ((disk_Crash.f l0_0 l0_1 a0_2 x11_2).bind fun bt263 => ((disk_Image.f l0_0 l0_1 a0_2).bind fun t270 => ((copyholdref01_Strings.f k2 bt263.1 t270).bind fun t273 => (if t229 = true then (if t238 = 0 then (if t273 = true then ((copyholdref04_Right.f k2 t231 t234 t237).bind fun t274 => (if t274 = true then ((copyholdref04_Right.f k2 t243 t246 t249).bind fun t275 => (if t275 = true then ((disk_Crash.f l0_0 l0_1 a0_2 l0_3).bind fun bt276 => ((copyholdref04_Right.f k2 bt276.1 bt276.2.1 bt276.2.2).bind fun t283 => (some t283))) else (none))) else (none))) else (none)) else (none)) else (none))))) else (none)))) = some r := H
              have A35 := Aside0.mk A350
              clear A350
              replace H := Option.bind_eq_some_iff.mp H
              obtain ⟨t259, A360, H⟩ := H
              replace H : ((copyholdref01_Strings.f k2 t252 t259).bind fun t262 => (if t262 = true then ((disk_Crash.f l0_0 l0_1 a0_2 x11_2).bind fun bt263 => ((disk_Image.f l0_0 l0_1 a0_2).bind fun t270 => ((copyholdref01_Strings.f k2 bt263.1 t270).bind fun t273 => (if t229 = true then (if t238 = 0 then (if t273 = true then ((copyholdref04_Right.f k2 t231 t234 t237).bind fun t274 => (if t274 = true then ((copyholdref04_Right.f k2 t243 t246 t249).bind fun t275 => (if t275 = true then ((disk_Crash.f l0_0 l0_1 a0_2 l0_3).bind fun bt276 => ((copyholdref04_Right.f k2 bt276.1 bt276.2.1 bt276.2.2).bind fun t283 => (some t283))) else (none))) else (none))) else (none)) else (none)) else (none))))) else (none))) = some r := H
              have A36 := Aside0.mk A360
              clear A360
              replace H := Option.bind_eq_some_iff.mp H
              obtain ⟨t262, A370, H⟩ := H
              replace H : (if t262 = true then ((disk_Crash.f l0_0 l0_1 a0_2 x11_2).bind fun bt263 => ((disk_Image.f l0_0 l0_1 a0_2).bind fun t270 => ((copyholdref01_Strings.f k2 bt263.1 t270).bind fun t273 => (if t229 = true then (if t238 = 0 then (if t273 = true then ((copyholdref04_Right.f k2 t231 t234 t237).bind fun t274 => (if t274 = true then ((copyholdref04_Right.f k2 t243 t246 t249).bind fun t275 => (if t275 = true then ((disk_Crash.f l0_0 l0_1 a0_2 l0_3).bind fun bt276 => ((copyholdref04_Right.f k2 bt276.1 bt276.2.1 bt276.2.2).bind fun t283 => (some t283))) else (none))) else (none))) else (none)) else (none)) else (none))))) else (none)) = some r := H
              have A37 := Aside0.mk A370
              clear A370
              by_cases c38 : t262 = true
              · subst c38
                have H1 : ((disk_Crash.f l0_0 l0_1 a0_2 x11_2).bind fun bt263 => ((disk_Image.f l0_0 l0_1 a0_2).bind fun t270 => ((copyholdref01_Strings.f k2 bt263.1 t270).bind fun t273 => (if t229 = true then (if t238 = 0 then (if t273 = true then ((copyholdref04_Right.f k2 t231 t234 t237).bind fun t274 => (if t274 = true then ((copyholdref04_Right.f k2 t243 t246 t249).bind fun t275 => (if t275 = true then ((disk_Crash.f l0_0 l0_1 a0_2 l0_3).bind fun bt276 => ((copyholdref04_Right.f k2 bt276.1 bt276.2.1 bt276.2.2).bind fun t283 => (some t283))) else (none))) else (none))) else (none)) else (none)) else (none))))) = some r := by rw [if_pos rfl] at H; exact H
                clear H
                have H := H1
                clear H1
                replace H := Option.bind_eq_some_iff.mp H
                obtain ⟨⟨t263, t266, t269⟩, A390, H⟩ := H
                replace H : ((disk_Image.f l0_0 l0_1 a0_2).bind fun t270 => ((copyholdref01_Strings.f k2 t263 t270).bind fun t273 => (if t229 = true then (if t238 = 0 then (if t273 = true then ((copyholdref04_Right.f k2 t231 t234 t237).bind fun t274 => (if t274 = true then ((copyholdref04_Right.f k2 t243 t246 t249).bind fun t275 => (if t275 = true then ((disk_Crash.f l0_0 l0_1 a0_2 l0_3).bind fun bt276 => ((copyholdref04_Right.f k2 bt276.1 bt276.2.1 bt276.2.2).bind fun t283 => (some t283))) else (none))) else (none))) else (none)) else (none)) else (none)))) = some r := H
                have A39 := Aside0.mk A390
                clear A390
                replace H := Option.bind_eq_some_iff.mp H
                obtain ⟨t270, A400, H⟩ := H
                replace H : ((copyholdref01_Strings.f k2 t263 t270).bind fun t273 => (if t229 = true then (if t238 = 0 then (if t273 = true then ((copyholdref04_Right.f k2 t231 t234 t237).bind fun t274 => (if t274 = true then ((copyholdref04_Right.f k2 t243 t246 t249).bind fun t275 => (if t275 = true then ((disk_Crash.f l0_0 l0_1 a0_2 l0_3).bind fun bt276 => ((copyholdref04_Right.f k2 bt276.1 bt276.2.1 bt276.2.2).bind fun t283 => (some t283))) else (none))) else (none))) else (none)) else (none)) else (none))) = some r := H
                have A40 := Aside0.mk A400
                clear A400
                replace H := Option.bind_eq_some_iff.mp H
                obtain ⟨t273, A410, H⟩ := H
                replace H : (if t229 = true then (if t238 = 0 then (if t273 = true then ((copyholdref04_Right.f k2 t231 t234 t237).bind fun t274 => (if t274 = true then ((copyholdref04_Right.f k2 t243 t246 t249).bind fun t275 => (if t275 = true then ((disk_Crash.f l0_0 l0_1 a0_2 l0_3).bind fun bt276 => ((copyholdref04_Right.f k2 bt276.1 bt276.2.1 bt276.2.2).bind fun t283 => (some t283))) else (none))) else (none))) else (none)) else (none)) else (none)) = some r := H
                have A41 := Aside0.mk A410
                clear A410
                by_cases c42 : t229 = true
                · subst c42
                  have H1 : (if t238 = 0 then (if t273 = true then ((copyholdref04_Right.f k2 t231 t234 t237).bind fun t274 => (if t274 = true then ((copyholdref04_Right.f k2 t243 t246 t249).bind fun t275 => (if t275 = true then ((disk_Crash.f l0_0 l0_1 a0_2 l0_3).bind fun bt276 => ((copyholdref04_Right.f k2 bt276.1 bt276.2.1 bt276.2.2).bind fun t283 => (some t283))) else (none))) else (none))) else (none)) else (none)) = some r := by rw [if_pos rfl] at H; exact H
                  clear H
                  have H := H1
                  clear H1
                  by_cases c43 : t238 = 0
                  · rw [if_pos c43] at H
                    have c43b0 : (t238 == 0) = true := beq_iff_eq.mpr c43
                    have c43b1 : (t238 != 0) = false := bne_eq_false_iff_eq.mpr c43
                    clear c43
                    by_cases c44 : t273 = true
                    · subst c44
                      have H1 : ((copyholdref04_Right.f k2 t231 t234 t237).bind fun t274 => (if t274 = true then ((copyholdref04_Right.f k2 t243 t246 t249).bind fun t275 => (if t275 = true then ((disk_Crash.f l0_0 l0_1 a0_2 l0_3).bind fun bt276 => ((copyholdref04_Right.f k2 bt276.1 bt276.2.1 bt276.2.2).bind fun t283 => (some t283))) else (none))) else (none))) = some r := by rw [if_pos rfl] at H; exact H
                      clear H
                      have H := H1
                      clear H1
                      replace H := Option.bind_eq_some_iff.mp H
                      obtain ⟨t274, A450, H⟩ := H
                      replace H : (if t274 = true then ((copyholdref04_Right.f k2 t243 t246 t249).bind fun t275 => (if t275 = true then ((disk_Crash.f l0_0 l0_1 a0_2 l0_3).bind fun bt276 => ((copyholdref04_Right.f k2 bt276.1 bt276.2.1 bt276.2.2).bind fun t283 => (some t283))) else (none))) else (none)) = some r := H
                      have A45 := Aside0.mk A450
                      clear A450
                      by_cases c46 : t274 = true
                      · subst c46
                        have H1 : ((copyholdref04_Right.f k2 t243 t246 t249).bind fun t275 => (if t275 = true then ((disk_Crash.f l0_0 l0_1 a0_2 l0_3).bind fun bt276 => ((copyholdref04_Right.f k2 bt276.1 bt276.2.1 bt276.2.2).bind fun t283 => (some t283))) else (none))) = some r := by rw [if_pos rfl] at H; exact H
                        clear H
                        have H := H1
                        clear H1
                        replace H := Option.bind_eq_some_iff.mp H
                        obtain ⟨t275, A470, H⟩ := H
                        replace H : (if t275 = true then ((disk_Crash.f l0_0 l0_1 a0_2 l0_3).bind fun bt276 => ((copyholdref04_Right.f k2 bt276.1 bt276.2.1 bt276.2.2).bind fun t283 => (some t283))) else (none)) = some r := H
                        have A47 := Aside0.mk A470
                        clear A470
                        by_cases c48 : t275 = true
                        · subst c48
                          have H1 : ((disk_Crash.f l0_0 l0_1 a0_2 l0_3).bind fun bt276 => ((copyholdref04_Right.f k2 bt276.1 bt276.2.1 bt276.2.2).bind fun t283 => (some t283))) = some r := by rw [if_pos rfl] at H; exact H
                          clear H
                          have H := H1
                          clear H1
                          replace H := Option.bind_eq_some_iff.mp H
                          obtain ⟨⟨t276, t279, t282⟩, A490, H⟩ := H
                          replace H : ((copyholdref04_Right.f k2 t276 t279 t282).bind fun t283 => (some t283)) = some r := H
                          have A49 := Aside0.mk A490
                          clear A490
                          replace H := Option.bind_eq_some_iff.mp H
                          obtain ⟨t283, A500, H⟩ := H
                          replace H : (some t283) = some r := H
                          have A50 := Aside0.mk A500
                          clear A500
                          obtain rfl := Option.some.inj H
                          have hnb51 := NB228_227.out
                          have hnc51 := NB227_228.out
                          have hnb52 := NB228_239.out
                          have hnc52 := NB239_228.out
                          have hcz53_0 : wr.cell? ⟨gb228, 0, none⟩ = some (.slice A0_0 l0_0.length c0_0) := (blk_cell BK228.out 0).trans rfl
                          have hcz53_1 : wr.cell? ⟨gb228, 1, none⟩ = some (.slice A0_1 l0_1.length c0_1) := (blk_cell BK228.out 1).trans rfl
                          have hcz53_2 : wr.cell? ⟨gb228, 2, none⟩ = some (.bool a0_2) := (blk_cell BK228.out 2).trans rfl
                          have hfz53_0 := blk_frozen BK228.out 0
                          have hfz53_1 := blk_frozen BK228.out 1
                          have hfz53_2 := blk_frozen BK228.out 2
                          try go_wp2_with (first | ((with_reducible refine gate_callee (f := 12) rfl ?_); refine goesL_ (some 53) rfl rfl Try.func12 (by kernel_rfl) rfl #[.agg #[.slice A0_0 l0_0.length c0_0, .slice A0_1 l0_1.length c0_1, .bool a0_2], .int .i64 a0_4, .string a0_5] rfl (by (try simp only [List.map_toArray, List.map_cons, List.map_nil]); first | done | rfl | (simp only [List.length_drop, List.length_take]; rfl)) ?_; (with_reducible refine (disk_Write.calls (fun k_ => k_ < w.heap.size) _ _ l0_0 (fun k_ => k_ < w.heap.size) _ _ l0_1 a0_2 a0_4 a0_5 t243 t246 t249 t250 _ ?side1 ?side2 A34.out).mono ?_); (case side1 => exact Kd.V_mk HC0_0.out (Kd.F_below (Kd.C_F Kd.heap_string HR0_0.out) (by repeat (first | (with_reducible first | exact HB.out | apply below_alloc | apply pw_below_drewN | apply below_drew1 | refine below_set ?_ GE227.out | refine below_set ?_ GE228.out | refine below_set ?_ GE239.out) | exact HB.out)))); (case side2 => exact Kd.V_mk HC0_1.out (Kd.F_below (Kd.C_F k31_heap HR0_1.out) (by repeat (first | (with_reducible first | exact HB.out | apply below_alloc | apply pw_below_drewN | apply below_drew1 | refine below_set ?_ GE227.out | refine below_set ?_ GE228.out | refine below_set ?_ GE239.out) | exact HB.out)))); rintro e w54 ⟨v244, v247, rfl, ho0, ho1, hb⟩; refine ⟨_, rfl, ?_⟩; have n0_ := Aside0.mk (Kd.R_below (by (with_reducible repeat (first | apply Kd.R_alloc | apply Kd.R_drewN | apply Kd.R_drew)); exact HO_11.out) hb); have n1_ := Aside0.mk (Kd.V_below (by (with_reducible repeat (first | apply Kd.V_alloc | apply Kd.V_drewN | apply Kd.V_drew)); exact HO_240000.out) hb); have n2_ := Aside0.mk (Kd.V_below (by (with_reducible repeat (first | apply Kd.V_alloc | apply Kd.V_drewN | apply Kd.V_drew)); exact HO_240001.out) hb); have n3_ := Aside0.mk (Kd.V_lower (Kd.V_mono (ok' := fun k_ => some k_ ≠ (u11 : Value).ownBlock ∧ k_ ≠ gb227 ∧ k_ ≠ gb228 ∧ k_ ≠ gb239) ho0 (fun k_ hk_ => ⟨Or.elim hk_ (fun hs_ => Or.elim hs_ (fun hs_ => fun e_ => Nat.not_le.2 hs_ (Kd.R_base HO_11.out k_ e_.symm)) (fun hs_ => fun e_ => Nat.not_le.2 hs_ (Kd.R_base HO_11.out k_ e_.symm))) (fun hn_ => (Kd.fresh' (Kd.R_lt (by (with_reducible repeat (first | apply Kd.R_alloc | apply Kd.R_drewN | apply Kd.R_drew)); exact HO_11.out)) k_ hn_)), Or.elim hk_ (fun hs_ => Or.elim hs_ (fun hs_ => fun e_ => Nat.not_le.2 hs_ (by rw [e_]; exact GW227.out)) (fun hs_ => fun e_ => Nat.not_le.2 hs_ (by rw [e_]; exact GW227.out))) (fun hn_ => (Kd.freshB (g := gb227) (o := .cells #[.slice A0_0 l0_0.length c0_0, .slice A0_1 l0_1.length c0_1, .bool a0_2, .slice A0_3 l0_3.length c0_3, .int .i64 a0_4, .string a0_5] 45 (0, 0)) (by (with_reducible repeat (first | refine blk_drewN ?_ _ | refine blk_drew ?_ | refine blk_alloc ?_ _)); exact BK227.out) k_ hn_)), Or.elim hk_ (fun hs_ => Or.elim hs_ (fun hs_ => fun e_ => Nat.not_le.2 hs_ (by rw [e_]; exact GW228.out)) (fun hs_ => fun e_ => Nat.not_le.2 hs_ (by rw [e_]; exact GW228.out))) (fun hn_ => (Kd.freshB (g := gb228) (o := .cells #[.slice A0_0 l0_0.length c0_0, .slice A0_1 l0_1.length c0_1, .bool a0_2] 25 (0, 0)) (by (with_reducible repeat (first | refine blk_drewN ?_ _ | refine blk_drew ?_ | refine blk_alloc ?_ _)); exact BK228.out) k_ hn_)), Or.elim hk_ (fun hs_ => Or.elim hs_ (fun hs_ => fun e_ => Nat.not_le.2 hs_ (by rw [e_]; exact GW239.out)) (fun hs_ => fun e_ => Nat.not_le.2 hs_ (by rw [e_]; exact GW239.out))) (fun hn_ => (Kd.freshB (g := gb239) (o := .cells #[.slice Ao23 t231.length co23, .slice Ao27 t234.length co27, .bool t237] 25 (0, 0)) (by (with_reducible repeat (first | refine blk_drewN ?_ _ | refine blk_drew ?_ | refine blk_alloc ?_ _)); exact BK239.out) k_ hn_))⟩)) (below_size (by repeat (first | (with_reducible first | exact HB.out | apply below_alloc | apply pw_below_drewN | apply below_drew1 | refine below_set ?_ GE227.out | refine below_set ?_ GE228.out | refine below_set ?_ GE239.out) | exact HB.out)))); have n4_ := Aside0.mk (Kd.V_lower (Kd.V_mono (ok' := fun k_ => some k_ ≠ (u11 : Value).ownBlock ∧ k_ ≠ gb227 ∧ k_ ≠ gb228 ∧ k_ ≠ gb239) ho1 (fun k_ hk_ => ⟨Or.elim hk_ (fun hs_ => Or.elim hs_ (fun hs_ => fun e_ => Nat.not_le.2 hs_ (Kd.R_base HO_11.out k_ e_.symm)) (fun hs_ => fun e_ => Nat.not_le.2 hs_ (Kd.R_base HO_11.out k_ e_.symm))) (fun hn_ => (Kd.fresh' (Kd.R_lt (by (with_reducible repeat (first | apply Kd.R_alloc | apply Kd.R_drewN | apply Kd.R_drew)); exact HO_11.out)) k_ hn_)), Or.elim hk_ (fun hs_ => Or.elim hs_ (fun hs_ => fun e_ => Nat.not_le.2 hs_ (by rw [e_]; exact GW227.out)) (fun hs_ => fun e_ => Nat.not_le.2 hs_ (by rw [e_]; exact GW227.out))) (fun hn_ => (Kd.freshB (g := gb227) (o := .cells #[.slice A0_0 l0_0.length c0_0, .slice A0_1 l0_1.length c0_1, .bool a0_2, .slice A0_3 l0_3.length c0_3, .int .i64 a0_4, .string a0_5] 45 (0, 0)) (by (with_reducible repeat (first | refine blk_drewN ?_ _ | refine blk_drew ?_ | refine blk_alloc ?_ _)); exact BK227.out) k_ hn_)), Or.elim hk_ (fun hs_ => Or.elim hs_ (fun hs_ => fun e_ => Nat.not_le.2 hs_ (by rw [e_]; exact GW228.out)) (fun hs_ => fun e_ => Nat.not_le.2 hs_ (by rw [e_]; exact GW228.out))) (fun hn_ => (Kd.freshB (g := gb228) (o := .cells #[.slice A0_0 l0_0.length c0_0, .slice A0_1 l0_1.length c0_1, .bool a0_2] 25 (0, 0)) (by (with_reducible repeat (first | refine blk_drewN ?_ _ | refine blk_drew ?_ | refine blk_alloc ?_ _)); exact BK228.out) k_ hn_)), Or.elim hk_ (fun hs_ => Or.elim hs_ (fun hs_ => fun e_ => Nat.not_le.2 hs_ (by rw [e_]; exact GW239.out)) (fun hs_ => fun e_ => Nat.not_le.2 hs_ (by rw [e_]; exact GW239.out))) (fun hn_ => (Kd.freshB (g := gb239) (o := .cells #[.slice Ao23 t231.length co23, .slice Ao27 t234.length co27, .bool t237] 25 (0, 0)) (by (with_reducible repeat (first | refine blk_drewN ?_ _ | refine blk_drew ?_ | refine blk_alloc ?_ _)); exact BK239.out) k_ hn_))⟩)) (below_size (by repeat (first | (with_reducible first | exact HB.out | apply below_alloc | apply pw_below_drewN | apply below_drew1 | refine below_set ?_ GE227.out | refine below_set ?_ GE228.out | refine below_set ?_ GE239.out) | exact HB.out)))); have n5_ := Aside0.mk (blk_below (g := gb227) (o := .cells #[.slice A0_0 l0_0.length c0_0, .slice A0_1 l0_1.length c0_1, .bool a0_2, .slice A0_3 l0_3.length c0_3, .int .i64 a0_4, .string a0_5] 45 (0, 0)) (by (with_reducible repeat (first | refine blk_drewN ?_ _ | refine blk_drew ?_ | refine blk_alloc ?_ _)); exact BK227.out) hb); have n6_ := Aside0.mk (blk_below (g := gb228) (o := .cells #[.slice A0_0 l0_0.length c0_0, .slice A0_1 l0_1.length c0_1, .bool a0_2] 25 (0, 0)) (by (with_reducible repeat (first | refine blk_drewN ?_ _ | refine blk_drew ?_ | refine blk_alloc ?_ _)); exact BK228.out) hb); have n7_ := Aside0.mk (blk_below (g := gb239) (o := .cells #[.slice Ao23 t231.length co23, .slice Ao27 t234.length co27, .bool t237] 25 (0, 0)) (by (with_reducible repeat (first | refine blk_drewN ?_ _ | refine blk_drew ?_ | refine blk_alloc ?_ _)); exact BK239.out) hb); have n8_ := Aside0.mk (below_step (by repeat (first | (with_reducible first | exact HB.out | apply below_alloc | apply pw_below_drewN | apply below_drew1 | refine below_set ?_ GE227.out | refine below_set ?_ GE228.out | refine below_set ?_ GE239.out) | exact HB.out)) hb); clear HO_11; clear HO_240000; clear HO_240001; clear BK227; clear BK228; clear BK239; clear HB; have HO_11 := n0_; have HO_240000 := n1_; have HO_240001 := n2_; have HO245 := n3_; have HO248 := n4_; have BK227 := n5_; have BK228 := n6_; have BK239 := n7_; have HB := n8_; clear n0_ n1_ n2_ n3_ n4_ n5_ n6_ n7_ n8_; (try clear hb); (try clear hb2); (try clear hk); (try clear hi); (try clear ho0); (try clear ho1)) | ((with_reducible refine gate_dst (N := 13) rfl ?_); refine box_event ?hg (N := 13) ?hd (cs := #[.slice none 0 0, .slice none 0 0, .bool false]) (t := 25) ?hr ?_; (case hd => rfl); (case hg => rfl); (case hr => first | (go_simp; done) | (go_simp; rfl)); intro gb251 hg w55 hbox hb; have n0_ := Aside0.mk (Kd.R_below (by (with_reducible repeat (first | apply Kd.R_alloc | apply Kd.R_drewN | apply Kd.R_drew)); exact HO_11.out) hb); have n1_ := Aside0.mk (Kd.V_below (Kd.V_elderB (by (with_reducible repeat (first | apply Kd.V_alloc | apply Kd.V_drewN | apply Kd.V_drew)); exact HO_240000.out) gb251 (Nat.le_of_eq hg.symm)) hb); have n2_ := Aside0.mk (Kd.V_below (Kd.V_elderB (by (with_reducible repeat (first | apply Kd.V_alloc | apply Kd.V_drewN | apply Kd.V_drew)); exact HO_240001.out) gb251 (Nat.le_of_eq hg.symm)) hb); have n3_ := Aside0.mk (Kd.V_below (Kd.V_elderB (by (with_reducible repeat (first | apply Kd.V_alloc | apply Kd.V_drewN | apply Kd.V_drew)); exact HO245.out) gb251 (Nat.le_of_eq hg.symm)) hb); have n4_ := Aside0.mk (Kd.V_below (Kd.V_elderB (by (with_reducible repeat (first | apply Kd.V_alloc | apply Kd.V_drewN | apply Kd.V_drew)); exact HO248.out) gb251 (Nat.le_of_eq hg.symm)) hb); have n5_ := Aside0.mk (blk_below (g := gb227) (o := .cells #[.slice A0_0 l0_0.length c0_0, .slice A0_1 l0_1.length c0_1, .bool a0_2, .slice A0_3 l0_3.length c0_3, .int .i64 a0_4, .string a0_5] 45 (0, 0)) (by (with_reducible repeat (first | refine blk_drewN ?_ _ | refine blk_drew ?_ | refine blk_alloc ?_ _)); exact BK227.out) hb); have n6_ := Aside0.mk (blk_below (g := gb228) (o := .cells #[.slice A0_0 l0_0.length c0_0, .slice A0_1 l0_1.length c0_1, .bool a0_2] 25 (0, 0)) (by (with_reducible repeat (first | refine blk_drewN ?_ _ | refine blk_drew ?_ | refine blk_alloc ?_ _)); exact BK228.out) hb); have n7_ := Aside0.mk (blk_below (g := gb239) (o := .cells #[.slice Ao23 t231.length co23, .slice Ao27 t234.length co27, .bool t237] 25 (0, 0)) (by (with_reducible repeat (first | refine blk_drewN ?_ _ | refine blk_drew ?_ | refine blk_alloc ?_ _)); exact BK239.out) hb); have n8_ := Aside0.mk (below_step (by repeat (first | (with_reducible first | exact HB.out | apply below_alloc | apply pw_below_drewN | apply below_drew1 | refine below_set ?_ GE227.out | refine below_set ?_ GE228.out | refine below_set ?_ GE239.out) | exact HB.out)) hb); have n9_ := Aside0.mk (hbox); have n10_ := Aside0.mk ((by rw [hg]; exact (below_size (by repeat (first | (with_reducible first | exact HB.out | apply below_alloc | apply pw_below_drewN | apply below_drew1 | refine below_set ?_ GE227.out | refine below_set ?_ GE228.out | refine below_set ?_ GE239.out) | exact HB.out))) : w.heap.size ≤ gb251)); have n11_ := Aside0.mk ((by rw [hg]; exact (below_size (by repeat (first | (with_reducible first | exact HB.out | apply below_alloc | apply pw_below_drewN | apply below_drew1 | refine below_set ?_ GE227.out | refine below_set ?_ GE228.out | refine below_set ?_ GE239.out) | exact HB.out))) : w.heap.size ≤ gb251)); have n12_ := Aside0.mk ((by rw [hg]; exact Nat.ne_of_lt (blk_lt (g := gb227) (o := .cells #[.slice A0_0 l0_0.length c0_0, .slice A0_1 l0_1.length c0_1, .bool a0_2, .slice A0_3 l0_3.length c0_3, .int .i64 a0_4, .string a0_5] 45 (0, 0)) (by (with_reducible repeat (first | refine blk_drewN ?_ _ | refine blk_drew ?_ | refine blk_alloc ?_ _)); exact BK227.out)) : gb227 ≠ gb251)); have n13_ := Aside0.mk ((by rw [hg]; exact Nat.ne_of_gt (blk_lt (g := gb227) (o := .cells #[.slice A0_0 l0_0.length c0_0, .slice A0_1 l0_1.length c0_1, .bool a0_2, .slice A0_3 l0_3.length c0_3, .int .i64 a0_4, .string a0_5] 45 (0, 0)) (by (with_reducible repeat (first | refine blk_drewN ?_ _ | refine blk_drew ?_ | refine blk_alloc ?_ _)); exact BK227.out)) : gb251 ≠ gb227)); have n14_ := Aside0.mk ((by rw [hg]; exact Nat.ne_of_lt (blk_lt (g := gb228) (o := .cells #[.slice A0_0 l0_0.length c0_0, .slice A0_1 l0_1.length c0_1, .bool a0_2] 25 (0, 0)) (by (with_reducible repeat (first | refine blk_drewN ?_ _ | refine blk_drew ?_ | refine blk_alloc ?_ _)); exact BK228.out)) : gb228 ≠ gb251)); have n15_ := Aside0.mk ((by rw [hg]; exact Nat.ne_of_gt (blk_lt (g := gb228) (o := .cells #[.slice A0_0 l0_0.length c0_0, .slice A0_1 l0_1.length c0_1, .bool a0_2] 25 (0, 0)) (by (with_reducible repeat (first | refine blk_drewN ?_ _ | refine blk_drew ?_ | refine blk_alloc ?_ _)); exact BK228.out)) : gb251 ≠ gb228)); have n16_ := Aside0.mk ((by rw [hg]; exact Nat.ne_of_lt (blk_lt (g := gb239) (o := .cells #[.slice Ao23 t231.length co23, .slice Ao27 t234.length co27, .bool t237] 25 (0, 0)) (by (with_reducible repeat (first | refine blk_drewN ?_ _ | refine blk_drew ?_ | refine blk_alloc ?_ _)); exact BK239.out)) : gb239 ≠ gb251)); have n17_ := Aside0.mk ((by rw [hg]; exact Nat.ne_of_gt (blk_lt (g := gb239) (o := .cells #[.slice Ao23 t231.length co23, .slice Ao27 t234.length co27, .bool t237] 25 (0, 0)) (by (with_reducible repeat (first | refine blk_drewN ?_ _ | refine blk_drew ?_ | refine blk_alloc ?_ _)); exact BK239.out)) : gb251 ≠ gb239)); clear HO_11; clear HO_240000; clear HO_240001; clear HO245; clear HO248; clear BK227; clear BK228; clear BK239; clear HB; have HO_11 := n0_; have HO_240000 := n1_; have HO_240001 := n2_; have HO245 := n3_; have HO248 := n4_; have BK227 := n5_; have BK228 := n6_; have BK239 := n7_; have HB := n8_; have BK251 := n9_; have GW251 := n10_; have GE251 := n11_; have NB227_251 := n12_; have NB251_227 := n13_; have NB228_251 := n14_; have NB251_228 := n15_; have NB239_251 := n16_; have NB251_239 := n17_; clear n0_ n1_ n2_ n3_ n4_ n5_ n6_ n7_ n8_ n9_ n10_ n11_ n12_ n13_ n14_ n15_ n16_ n17_; clear hb hbox hg; obtain ⟨Ao56, co56, eo56⟩ := Kd.V_slice HO245.out; subst eo56; have hnb57 := NB251_227.out; have hnc57 := NB227_251.out; have hnb58 := NB251_228.out; have hnc58 := NB228_251.out; have hnb59 := NB251_239.out; have hnc59 := NB239_251.out; have hcz60_0 : w55.cell? ⟨gb251, 0, none⟩ = some (.slice none 0 0) := (blk_cell BK251.out 0).trans rfl; have hcz60_1 : w55.cell? ⟨gb251, 1, none⟩ = some (.slice none 0 0) := (blk_cell BK251.out 1).trans rfl; have hcz60_2 : w55.cell? ⟨gb251, 2, none⟩ = some (.bool false) := (blk_cell BK251.out 2).trans rfl; have hfz60_0 := blk_frozen BK251.out 0; have hfz60_1 := blk_frozen BK251.out 1; have hfz60_2 := blk_frozen BK251.out 2; obtain ⟨Ao61, co61, eo61⟩ := Kd.V_slice HO248.out; subst eo61))
                          have n0_ : Aside0 (Kd.R Kd.bool 4 (((w55.setCell ⟨gb251, 0, none⟩ (.slice Ao56 t243.length co56)).setCell ⟨gb251, 1, none⟩ (.slice Ao61 t246.length co61)).setCell ⟨gb251, 2, none⟩ (.bool t249)) w.heap.size (fun _ => True) u11 x11_2) := ⟨by (with_reducible repeat (first | apply Kd.R_alloc | apply Kd.R_drewN | apply Kd.R_drew)); exact Kd.R_mono (Kd.R_far (p := ⟨gb251, 2, none⟩) (Kd.R_far (p := ⟨gb251, 1, none⟩) (Kd.R_far (p := ⟨gb251, 0, none⟩) (Kd.R_types HO_11.out BK251.out (by decide)) (fun _ hk => hk.2) (.slice Ao56 t243.length co56)) (fun _ hk => hk.2) (.slice Ao61 t246.length co61)) (fun _ hk => hk.2) (.bool t249)) (fun _ hk => trivial)⟩
                          have n1_ : Aside0 (Kd.V Kd.string 9 (((w55.setCell ⟨gb251, 0, none⟩ (.slice Ao56 t243.length co56)).setCell ⟨gb251, 1, none⟩ (.slice Ao61 t246.length co61)).setCell ⟨gb251, 2, none⟩ (.bool t249)) w.heap.size (fun k_ => some k_ ≠ (u11 : Value).ownBlock ∧ k_ ≠ gb227 ∧ k_ ≠ gb228 ∧ k_ ≠ gb239 ∧ k_ ≠ gb251) (.slice Ao23 t231.length co23) t231) := ⟨by (with_reducible repeat (first | apply Kd.V_alloc | apply Kd.V_drewN | apply Kd.V_drew)); exact Kd.V_mono (Kd.V_far (p := ⟨gb251, 2, none⟩) (Kd.V_far (p := ⟨gb251, 1, none⟩) (Kd.V_far (p := ⟨gb251, 0, none⟩) (Kd.V_mono HO_240000.out (fun k_ hk => (⟨hk, hk.2⟩ : _ ∧ k_ ≠ gb251))) (fun _ hk => hk.2) (.slice Ao56 t243.length co56)) (fun _ hk => hk.2) (.slice Ao61 t246.length co61)) (fun _ hk => hk.2) (.bool t249)) (fun _ hk => ⟨hk.1.1.1, ⟨hk.1.1.2.1, ⟨hk.1.1.2.2.1, ⟨hk.1.1.2.2.2, hk.1.2⟩⟩⟩⟩)⟩
                          have n2_ : Aside0 (Kd.V k31 31 (((w55.setCell ⟨gb251, 0, none⟩ (.slice Ao56 t243.length co56)).setCell ⟨gb251, 1, none⟩ (.slice Ao61 t246.length co61)).setCell ⟨gb251, 2, none⟩ (.bool t249)) w.heap.size (fun k_ => some k_ ≠ (u11 : Value).ownBlock ∧ k_ ≠ gb227 ∧ k_ ≠ gb228 ∧ k_ ≠ gb239 ∧ k_ ≠ gb251) (.slice Ao27 t234.length co27) t234) := ⟨by (with_reducible repeat (first | apply Kd.V_alloc | apply Kd.V_drewN | apply Kd.V_drew)); exact Kd.V_mono (Kd.V_far (p := ⟨gb251, 2, none⟩) (Kd.V_far (p := ⟨gb251, 1, none⟩) (Kd.V_far (p := ⟨gb251, 0, none⟩) (Kd.V_mono HO_240001.out (fun k_ hk => (⟨hk, hk.2⟩ : _ ∧ k_ ≠ gb251))) (fun _ hk => hk.2) (.slice Ao56 t243.length co56)) (fun _ hk => hk.2) (.slice Ao61 t246.length co61)) (fun _ hk => hk.2) (.bool t249)) (fun _ hk => ⟨hk.1.1.1, ⟨hk.1.1.2.1, ⟨hk.1.1.2.2.1, ⟨hk.1.1.2.2.2, hk.1.2⟩⟩⟩⟩)⟩
                          have n3_ : Aside0 (Kd.V Kd.string 9 (((w55.setCell ⟨gb251, 0, none⟩ (.slice Ao56 t243.length co56)).setCell ⟨gb251, 1, none⟩ (.slice Ao61 t246.length co61)).setCell ⟨gb251, 2, none⟩ (.bool t249)) w.heap.size (fun k_ => some k_ ≠ (u11 : Value).ownBlock ∧ k_ ≠ gb227 ∧ k_ ≠ gb228 ∧ k_ ≠ gb239 ∧ k_ ≠ gb251) (.slice Ao56 t243.length co56) t243) := ⟨by (with_reducible repeat (first | apply Kd.V_alloc | apply Kd.V_drewN | apply Kd.V_drew)); exact Kd.V_mono (Kd.V_far (p := ⟨gb251, 2, none⟩) (Kd.V_far (p := ⟨gb251, 1, none⟩) (Kd.V_far (p := ⟨gb251, 0, none⟩) (Kd.V_mono HO245.out (fun k_ hk => (⟨hk, hk.2⟩ : _ ∧ k_ ≠ gb251))) (fun _ hk => hk.2) (.slice Ao56 t243.length co56)) (fun _ hk => hk.2) (.slice Ao61 t246.length co61)) (fun _ hk => hk.2) (.bool t249)) (fun _ hk => ⟨hk.1.1.1, ⟨hk.1.1.2.1, ⟨hk.1.1.2.2.1, ⟨hk.1.1.2.2.2, hk.1.2⟩⟩⟩⟩)⟩
                          have n4_ : Aside0 (Kd.V k31 31 (((w55.setCell ⟨gb251, 0, none⟩ (.slice Ao56 t243.length co56)).setCell ⟨gb251, 1, none⟩ (.slice Ao61 t246.length co61)).setCell ⟨gb251, 2, none⟩ (.bool t249)) w.heap.size (fun k_ => some k_ ≠ (u11 : Value).ownBlock ∧ k_ ≠ gb227 ∧ k_ ≠ gb228 ∧ k_ ≠ gb239 ∧ k_ ≠ gb251) (.slice Ao61 t246.length co61) t246) := ⟨by (with_reducible repeat (first | apply Kd.V_alloc | apply Kd.V_drewN | apply Kd.V_drew)); exact Kd.V_mono (Kd.V_far (p := ⟨gb251, 2, none⟩) (Kd.V_far (p := ⟨gb251, 1, none⟩) (Kd.V_far (p := ⟨gb251, 0, none⟩) (Kd.V_mono HO248.out (fun k_ hk => (⟨hk, hk.2⟩ : _ ∧ k_ ≠ gb251))) (fun _ hk => hk.2) (.slice Ao56 t243.length co56)) (fun _ hk => hk.2) (.slice Ao61 t246.length co61)) (fun _ hk => hk.2) (.bool t249)) (fun _ hk => ⟨hk.1.1.1, ⟨hk.1.1.2.1, ⟨hk.1.1.2.2.1, ⟨hk.1.1.2.2.2, hk.1.2⟩⟩⟩⟩)⟩
                          have n5_ : Aside0 ((((w55.setCell ⟨gb251, 0, none⟩ (.slice Ao56 t243.length co56)).setCell ⟨gb251, 1, none⟩ (.slice Ao61 t246.length co61)).setCell ⟨gb251, 2, none⟩ (.bool t249)).heap[gb227]? = some (.cells #[.slice A0_0 l0_0.length c0_0, .slice A0_1 l0_1.length c0_1, .bool a0_2, .slice A0_3 l0_3.length c0_3, .int .i64 a0_4, .string a0_5] 45 (0, 0))) := ⟨by (with_reducible repeat (first | refine blk_drewN ?_ _ | refine blk_drew ?_ | refine blk_alloc ?_ _)); refine blk_far ?_ NB227_251.out _; (with_reducible repeat (first | refine blk_drewN ?_ _ | refine blk_drew ?_ | refine blk_alloc ?_ _)); refine blk_far ?_ NB227_251.out _; (with_reducible repeat (first | refine blk_drewN ?_ _ | refine blk_drew ?_ | refine blk_alloc ?_ _)); refine blk_far ?_ NB227_251.out _; (with_reducible repeat (first | refine blk_drewN ?_ _ | refine blk_drew ?_ | refine blk_alloc ?_ _)); exact BK227.out⟩
                          have n6_ : Aside0 ((((w55.setCell ⟨gb251, 0, none⟩ (.slice Ao56 t243.length co56)).setCell ⟨gb251, 1, none⟩ (.slice Ao61 t246.length co61)).setCell ⟨gb251, 2, none⟩ (.bool t249)).heap[gb228]? = some (.cells #[.slice A0_0 l0_0.length c0_0, .slice A0_1 l0_1.length c0_1, .bool a0_2] 25 (0, 0))) := ⟨by (with_reducible repeat (first | refine blk_drewN ?_ _ | refine blk_drew ?_ | refine blk_alloc ?_ _)); refine blk_far ?_ NB228_251.out _; (with_reducible repeat (first | refine blk_drewN ?_ _ | refine blk_drew ?_ | refine blk_alloc ?_ _)); refine blk_far ?_ NB228_251.out _; (with_reducible repeat (first | refine blk_drewN ?_ _ | refine blk_drew ?_ | refine blk_alloc ?_ _)); refine blk_far ?_ NB228_251.out _; (with_reducible repeat (first | refine blk_drewN ?_ _ | refine blk_drew ?_ | refine blk_alloc ?_ _)); exact BK228.out⟩
                          have n7_ : Aside0 ((((w55.setCell ⟨gb251, 0, none⟩ (.slice Ao56 t243.length co56)).setCell ⟨gb251, 1, none⟩ (.slice Ao61 t246.length co61)).setCell ⟨gb251, 2, none⟩ (.bool t249)).heap[gb239]? = some (.cells #[.slice Ao23 t231.length co23, .slice Ao27 t234.length co27, .bool t237] 25 (0, 0))) := ⟨by (with_reducible repeat (first | refine blk_drewN ?_ _ | refine blk_drew ?_ | refine blk_alloc ?_ _)); refine blk_far ?_ NB239_251.out _; (with_reducible repeat (first | refine blk_drewN ?_ _ | refine blk_drew ?_ | refine blk_alloc ?_ _)); refine blk_far ?_ NB239_251.out _; (with_reducible repeat (first | refine blk_drewN ?_ _ | refine blk_drew ?_ | refine blk_alloc ?_ _)); refine blk_far ?_ NB239_251.out _; (with_reducible repeat (first | refine blk_drewN ?_ _ | refine blk_drew ?_ | refine blk_alloc ?_ _)); exact BK239.out⟩
                          have n8_ : Aside0 ((((w55.setCell ⟨gb251, 0, none⟩ (.slice Ao56 t243.length co56)).setCell ⟨gb251, 1, none⟩ (.slice Ao61 t246.length co61)).setCell ⟨gb251, 2, none⟩ (.bool t249)).heap[gb251]? = some (.cells #[.slice Ao56 t243.length co56, .slice Ao61 t246.length co61, .bool t249] 25 (0, 0))) := ⟨by (with_reducible repeat (first | refine blk_drewN ?_ _ | refine blk_drew ?_ | refine blk_alloc ?_ _)); refine blk_put (cs := #[.slice Ao56 t243.length co56, .slice Ao61 t246.length co61, .bool false]) ?_ 2 _ rfl; (with_reducible repeat (first | refine blk_drewN ?_ _ | refine blk_drew ?_ | refine blk_alloc ?_ _)); refine blk_put (cs := #[.slice Ao56 t243.length co56, .slice none 0 0, .bool false]) ?_ 1 _ rfl; (with_reducible repeat (first | refine blk_drewN ?_ _ | refine blk_drew ?_ | refine blk_alloc ?_ _)); refine blk_put (cs := #[.slice none 0 0, .slice none 0 0, .bool false]) ?_ 0 _ rfl; (with_reducible repeat (first | refine blk_drewN ?_ _ | refine blk_drew ?_ | refine blk_alloc ?_ _)); exact BK251.out⟩
                          have n9_ : Aside0 (Below w.heap.size w (((w55.setCell ⟨gb251, 0, none⟩ (.slice Ao56 t243.length co56)).setCell ⟨gb251, 1, none⟩ (.slice Ao61 t246.length co61)).setCell ⟨gb251, 2, none⟩ (.bool t249))) := ⟨by repeat (first | (with_reducible first | exact HB.out | apply below_alloc | apply pw_below_drewN | apply below_drew1 | refine below_set ?_ GE227.out | refine below_set ?_ GE228.out | refine below_set ?_ GE239.out | refine below_set ?_ GE251.out) | exact HB.out)⟩
                          (try clear HO_11)
                          (try clear HO_240000)
                          (try clear HO_240001)
                          (try clear HO245)
                          (try clear HO248)
                          (try clear BK227)
                          (try clear BK228)
                          (try clear BK239)
                          (try clear BK251)
                          (try clear HB)
                          generalize (((w55.setCell ⟨gb251, 0, none⟩ (.slice Ao56 t243.length co56)).setCell ⟨gb251, 1, none⟩ (.slice Ao61 t246.length co61)).setCell ⟨gb251, 2, none⟩ (.bool t249)) = w62 at n0_ n1_ n2_ n3_ n4_ n5_ n6_ n7_ n8_ n9_ ⊢
                          have HO_11 := n0_
                          have HO_240000 := n1_
                          have HO_240001 := n2_
                          have HO245 := n3_
                          have HO248 := n4_
                          have BK227 := n5_
                          have BK228 := n6_
                          have BK239 := n7_
                          have BK251 := n8_
                          have HB := n9_
                          clear n0_ n1_ n2_ n3_ n4_ n5_ n6_ n7_ n8_ n9_
                          have n0_ := Aside0.mk (Kd.R_drew HO_11.out)
                          have n1_ := Aside0.mk (Kd.V_drew HO_240000.out)
                          have n2_ := Aside0.mk (Kd.V_drew HO_240001.out)
                          have n3_ := Aside0.mk (Kd.V_drew HO245.out)
                          have n4_ := Aside0.mk (Kd.V_drew HO248.out)
                          have n5_ := Aside0.mk (blk_drew BK227.out)
                          have n6_ := Aside0.mk (blk_drew BK228.out)
                          have n7_ := Aside0.mk (blk_drew BK239.out)
                          have n8_ := Aside0.mk (blk_drew BK251.out)
                          have n9_ := Aside0.mk (below_drew1 HB.out)
                          clear HO_11
                          clear HO_240000
                          clear HO_240001
                          clear HO245
                          clear HO248
                          clear BK227
                          clear BK228
                          clear BK239
                          clear BK251
                          clear HB
                          have HO_11 := n0_
                          have HO_240000 := n1_
                          have HO_240001 := n2_
                          have HO245 := n3_
                          have HO248 := n4_
                          have BK227 := n5_
                          have BK228 := n6_
                          have BK239 := n7_
                          have BK251 := n8_
                          have HB := n9_
                          clear n0_ n1_ n2_ n3_ n4_ n5_ n6_ n7_ n8_ n9_
                          refine start_ (n := 17) (S := fun w' => w'.cell? ⟨gb239, 0, none⟩ = some (.slice Ao23 t231.length co23) ∧ w'.cell? ⟨gb239, 1, none⟩ = some (.slice Ao27 t234.length co27) ∧ w'.cell? ⟨gb239, 2, none⟩ = some (.bool t237) ∧ w'.cell? ⟨gb228, 0, none⟩ = some (.slice A0_0 l0_0.length c0_0) ∧ w'.cell? ⟨gb228, 1, none⟩ = some (.slice A0_1 l0_1.length c0_1) ∧ w'.cell? ⟨gb228, 2, none⟩ = some (.bool a0_2)) (ds := []) #[false, false, false, false, false, false, false, false, false, false, false, false, false, false, false, false, false] (by kernel_rfl) rfl rfl ⟨(blk_cell BK239.out 0).trans rfl, (blk_cell BK239.out 1).trans rfl, (blk_cell BK239.out 2).trans rfl, (blk_cell BK228.out 0).trans rfl, (blk_cell BK228.out 1).trans rfl, (blk_cell BK228.out 2).trans rfl⟩ (fun hHeld => ?_); refine with_tabW copyholdlaw04_DiskKeeps.tab16 copyholdlaw04_DiskKeeps.bits16 (fun HT_ HW_ => ?_)
                          generalize w62.drew = w63 at HO_11 HO_240000 HO_240001 HO245 HO248 BK227 BK228 BK239 BK251 HB hHeld ⊢
                          refine pure_ (i := 1) (N := some 57) (v := ?_) (a' := ?_) #[false, true, false, false, false, false, false, false, false, false, false, false, false, false, false, false, false] rfl rfl (any_of HT_.out (by kernel_rfl)) (fun _ _ _ h => h) (Or.inl ⟨by rfl, ?_⟩) ?_ ?_
                          rotate_left
                          · intro w'
                            go_simp
                            with_reducible rfl
                          rotate_left
                          · simp only [Act.put, List.setIfInBounds_toArray, List.set_cons_zero, List.set_cons_succ, i64_w, i32_w]
                            rfl
                          refine take_ (i := 0) (N := some 56) (v := ?_) (a' := ?_) #[true, true, false, false, false, false, false, false, false, false, false, false, false, false, false, false, false] rfl rfl (take_ofW HT_.out HW_.out (by kernel_rfl)) (fun _ _ _ h => h) (Or.inl ⟨by rfl, ?_⟩) hHeld ?_ ?_
                          rotate_left
                          · rintro w' ⟨s0, s1, s2, s3, s4, s5⟩
                            go_simp
                            with_reducible rfl
                          rotate_left
                          · simp only [Act.put, List.setIfInBounds_toArray, List.set_cons_zero, List.set_cons_succ, i64_w, i32_w]
                            rfl
                          refine take_ (i := 4) (N := some 60) (v := ?_) (a' := ?_) #[true, true, false, false, true, false, false, false, false, false, false, false, false, false, false, false, false] rfl rfl (take_ofW HT_.out HW_.out (by kernel_rfl)) (fun _ _ _ h => h) (Or.inl ⟨by rfl, ?_⟩) hHeld ?_ ?_
                          rotate_left
                          · rintro w' ⟨s0, s1, s2, s3, s4, s5⟩
                            go_simp
                            with_reducible rfl
                          rotate_left
                          · simp only [Act.put, List.setIfInBounds_toArray, List.set_cons_zero, List.set_cons_succ, i64_w, i32_w]
                            rfl
                          refine one_ (i := 2) (N := some 58) #[true, true, true, false, true, false, false, false, false, false, false, false, false, false, false, false, false] rfl rfl (one_of HT_.out (by kernel_rfl)) (by decide) (fun K hK => ?_)
                          refine goes_ Try.func11 (by kernel_rfl) rfl #[.agg #[.slice Ao23 t231.length co23, .slice Ao27 t234.length co27, .bool t237], .slice A0_3 l0_3.length c0_3] (by rfl) rfl rfl (by (try simp only [List.map_toArray, List.map_cons, List.map_nil]); first | done | rfl | (simp only [List.length_drop, List.length_take]; rfl)) ?_
                          with_reducible refine (disk_Crash.calls _ _ t231 _ _ t234 t237 _ _ l0_3 t252 t255 t258 _ ?side1 ?side2 ?side3 ?side4 ?side5 ?side6 A35.out).mono ?_
                          (case side1 => repeat (first | exact (Kd.V_reads' HO_240000.out).2.2 | (with_reducible refine Kd.C_alloc ?_ _) | (with_reducible refine Kd.C_drewN ?_ _) | (with_reducible refine Kd.C_drew ?_)))
                          (case side2 => exact (Kd.V_reads' HO_240000.out).2.1)
                          (case side3 => repeat (first | exact (Kd.V_reads' HO_240001.out).2.2 | (with_reducible refine Kd.C_alloc ?_ _) | (with_reducible refine Kd.C_drewN ?_ _) | (with_reducible refine Kd.C_drew ?_)))
                          (case side4 => exact (Kd.V_reads' HO_240001.out).2.1)
                          (case side5 => repeat (first | exact (Kd.C_below HR0_3.out HB.out) | (with_reducible refine Kd.C_alloc ?_ _) | (with_reducible refine Kd.C_drewN ?_ _) | (with_reducible refine Kd.C_drew ?_)))
                          (case side6 => exact HC0_3.out)
                          rintro e w64 ⟨v253, v256, rfl, ho0, ho1, hb⟩
                          refine ⟨_, rfl, ?_⟩
                          have n0_ := Aside0.mk (Kd.R_below (by (with_reducible repeat (first | apply Kd.R_alloc | apply Kd.R_drewN | apply Kd.R_drew)); exact HO_11.out) hb)
                          have n1_ := Aside0.mk (Kd.V_mono (Kd.V_told (Kd.V_told (Kd.V_old (by (with_reducible repeat (first | apply Kd.V_alloc | apply Kd.V_drewN | apply Kd.V_drew)); exact HO_240000.out) hb) (Kd.R_base ho0)) (Kd.R_base ho1)) (fun _ h_ => h_.1))
                          have n2_ := Aside0.mk (Kd.V_mono (Kd.V_told (Kd.V_told (Kd.V_old (by (with_reducible repeat (first | apply Kd.V_alloc | apply Kd.V_drewN | apply Kd.V_drew)); exact HO_240001.out) hb) (Kd.R_base ho0)) (Kd.R_base ho1)) (fun _ h_ => h_.1))
                          have n3_ := Aside0.mk (Kd.V_mono (Kd.V_told (Kd.V_told (Kd.V_old (by (with_reducible repeat (first | apply Kd.V_alloc | apply Kd.V_drewN | apply Kd.V_drew)); exact HO245.out) hb) (Kd.R_base ho0)) (Kd.R_base ho1)) (fun _ h_ => h_.1))
                          have n4_ := Aside0.mk (Kd.V_mono (Kd.V_told (Kd.V_told (Kd.V_old (by (with_reducible repeat (first | apply Kd.V_alloc | apply Kd.V_drewN | apply Kd.V_drew)); exact HO248.out) hb) (Kd.R_base ho0)) (Kd.R_base ho1)) (fun _ h_ => h_.1))
                          have n5_ := Aside0.mk (Kd.R_lower ho0 (below_size (by repeat (first | (with_reducible first | exact HB.out | apply below_alloc | apply pw_below_drewN | apply below_drew1 | refine below_set ?_ GE227.out | refine below_set ?_ GE228.out | refine below_set ?_ GE239.out | refine below_set ?_ GE251.out) | exact HB.out))))
                          have n6_ := Aside0.mk (Kd.R_lower ho1 (below_size (by repeat (first | (with_reducible first | exact HB.out | apply below_alloc | apply pw_below_drewN | apply below_drew1 | refine below_set ?_ GE227.out | refine below_set ?_ GE228.out | refine below_set ?_ GE239.out | refine below_set ?_ GE251.out) | exact HB.out))))
                          have n7_ := Aside0.mk (blk_below (g := gb227) (o := .cells #[.slice A0_0 l0_0.length c0_0, .slice A0_1 l0_1.length c0_1, .bool a0_2, .slice A0_3 l0_3.length c0_3, .int .i64 a0_4, .string a0_5] 45 (0, 0)) (by (with_reducible repeat (first | refine blk_drewN ?_ _ | refine blk_drew ?_ | refine blk_alloc ?_ _)); exact BK227.out) hb)
                          have n8_ := Aside0.mk (blk_below (g := gb228) (o := .cells #[.slice A0_0 l0_0.length c0_0, .slice A0_1 l0_1.length c0_1, .bool a0_2] 25 (0, 0)) (by (with_reducible repeat (first | refine blk_drewN ?_ _ | refine blk_drew ?_ | refine blk_alloc ?_ _)); exact BK228.out) hb)
                          have n9_ := Aside0.mk (blk_below (g := gb239) (o := .cells #[.slice Ao23 t231.length co23, .slice Ao27 t234.length co27, .bool t237] 25 (0, 0)) (by (with_reducible repeat (first | refine blk_drewN ?_ _ | refine blk_drew ?_ | refine blk_alloc ?_ _)); exact BK239.out) hb)
                          have n10_ := Aside0.mk (blk_below (g := gb251) (o := .cells #[.slice Ao56 t243.length co56, .slice Ao61 t246.length co61, .bool t249] 25 (0, 0)) (by (with_reducible repeat (first | refine blk_drewN ?_ _ | refine blk_drew ?_ | refine blk_alloc ?_ _)); exact BK251.out) hb)
                          have n11_ := Aside0.mk (below_step (by repeat (first | (with_reducible first | exact HB.out | apply below_alloc | apply pw_below_drewN | apply below_drew1 | refine below_set ?_ GE227.out | refine below_set ?_ GE228.out | refine below_set ?_ GE239.out | refine below_set ?_ GE251.out) | exact HB.out)) hb)
                          clear HO_11
                          clear HO_240000
                          clear HO_240001
                          clear HO245
                          clear HO248
                          clear BK227
                          clear BK228
                          clear BK239
                          clear BK251
                          clear HB
                          have HO_11 := n0_
                          have HO_240000 := n1_
                          have HO_240001 := n2_
                          have HO245 := n3_
                          have HO248 := n4_
                          have HO254 := n5_
                          have HO257 := n6_
                          have BK227 := n7_
                          have BK228 := n8_
                          have BK239 := n9_
                          have BK251 := n10_
                          have HB := n11_
                          clear n0_ n1_ n2_ n3_ n4_ n5_ n6_ n7_ n8_ n9_ n10_ n11_
                          (try clear hb)
                          (try clear hb2)
                          (try clear hk)
                          (try clear hi)
                          (try clear ho0)
                          (try clear ho1)
                          refine hK.out _ _ ⟨(blk_cell BK239.out 0).trans rfl, (blk_cell BK239.out 1).trans rfl, (blk_cell BK239.out 2).trans rfl, (blk_cell BK228.out 0).trans rfl, (blk_cell BK228.out 1).trans rfl, (blk_cell BK228.out 2).trans rfl⟩ (fun hHeld => ?_)
                          clear hK K
                          refine norm_ (a' := ?_) ?_ ?_
                          rotate_left
                          · show Act.put _ (some 58) _ = _
                            simp only [Act.put, List.setIfInBounds_toArray, List.set_cons_zero, List.set_cons_succ, i64_w, i32_w]
                            rfl
                          refine pure_ (i := 3) (N := some 59) (v := ?_) (a' := ?_) #[true, true, true, true, true, false, false, false, false, false, false, false, false, false, false, false, false] rfl rfl (any_of HT_.out (by kernel_rfl)) (fun _ _ _ h => h) (Or.inl ⟨by rfl, ?_⟩) ?_ ?_
                          rotate_left
                          · intro w'
                            go_simp
                            with_reducible rfl
                          rotate_left
                          · simp only [Act.put, List.setIfInBounds_toArray, List.set_cons_zero, List.set_cons_succ, i64_w, i32_w]
                            rfl
                          refine one_ (i := 5) (N := some 61) #[true, true, true, true, true, true, false, false, false, false, false, false, false, false, false, false, false] rfl rfl (one_of HT_.out (by kernel_rfl)) (by decide) (fun K hK => ?_)
                          refine goes_ Try.func19 (by kernel_rfl) rfl #[.agg #[.slice A0_0 l0_0.length c0_0, .slice A0_1 l0_1.length c0_1, .bool a0_2]] (by rfl) rfl rfl (by (try simp only [List.map_toArray, List.map_cons, List.map_nil]); first | done | rfl | (simp only [List.length_drop, List.length_take]; rfl)) ?_
                          with_reducible refine (disk_Image.calls _ _ l0_0 _ _ l0_1 a0_2 t259 _ ?side1 ?side2 ?side3 ?side4 A36.out).mono ?_
                          (case side1 => repeat (first | exact (Kd.C_below HR0_0.out HB.out) | (with_reducible refine Kd.C_alloc ?_ _) | (with_reducible refine Kd.C_drewN ?_ _) | (with_reducible refine Kd.C_drew ?_)))
                          (case side2 => exact HC0_0.out)
                          (case side3 => repeat (first | exact (Kd.C_below HR0_1.out HB.out) | (with_reducible refine Kd.C_alloc ?_ _) | (with_reducible refine Kd.C_drewN ?_ _) | (with_reducible refine Kd.C_drew ?_)))
                          (case side4 => exact HC0_1.out)
                          rintro e w65 ⟨v260, rfl, ho0, hb⟩
                          refine ⟨_, rfl, ?_⟩
                          have n0_ := Aside0.mk (Kd.R_below (by (with_reducible repeat (first | apply Kd.R_alloc | apply Kd.R_drewN | apply Kd.R_drew)); exact HO_11.out) hb)
                          have n1_ := Aside0.mk (Kd.V_elder' (by (with_reducible repeat (first | apply Kd.V_alloc | apply Kd.V_drewN | apply Kd.V_drew)); exact HO_240000.out) (Kd.R_base ho0) hb)
                          have n2_ := Aside0.mk (Kd.V_elder' (by (with_reducible repeat (first | apply Kd.V_alloc | apply Kd.V_drewN | apply Kd.V_drew)); exact HO_240001.out) (Kd.R_base ho0) hb)
                          have n3_ := Aside0.mk (Kd.V_elder' (by (with_reducible repeat (first | apply Kd.V_alloc | apply Kd.V_drewN | apply Kd.V_drew)); exact HO245.out) (Kd.R_base ho0) hb)
                          have n4_ := Aside0.mk (Kd.V_elder' (by (with_reducible repeat (first | apply Kd.V_alloc | apply Kd.V_drewN | apply Kd.V_drew)); exact HO248.out) (Kd.R_base ho0) hb)
                          have n5_ := Aside0.mk (Kd.R_elder' (by (with_reducible repeat (first | apply Kd.R_alloc | apply Kd.R_drewN | apply Kd.R_drew)); exact HO254.out) (Kd.R_base ho0) hb)
                          have n6_ := Aside0.mk (Kd.R_below (by (with_reducible repeat (first | apply Kd.R_alloc | apply Kd.R_drewN | apply Kd.R_drew)); exact HO257.out) hb)
                          have n7_ := Aside0.mk (Kd.R_lower (Kd.R_new' ho0 (Kd.R_lt (by (with_reducible repeat (first | apply Kd.R_alloc | apply Kd.R_drewN | apply Kd.R_drew)); exact HO254.out))) (below_size (by repeat (first | (with_reducible first | exact HB.out | apply below_alloc | apply pw_below_drewN | apply below_drew1 | refine below_set ?_ GE227.out | refine below_set ?_ GE228.out | refine below_set ?_ GE239.out | refine below_set ?_ GE251.out) | exact HB.out))))
                          have n8_ := Aside0.mk (blk_below (g := gb227) (o := .cells #[.slice A0_0 l0_0.length c0_0, .slice A0_1 l0_1.length c0_1, .bool a0_2, .slice A0_3 l0_3.length c0_3, .int .i64 a0_4, .string a0_5] 45 (0, 0)) (by (with_reducible repeat (first | refine blk_drewN ?_ _ | refine blk_drew ?_ | refine blk_alloc ?_ _)); exact BK227.out) hb)
                          have n9_ := Aside0.mk (blk_below (g := gb228) (o := .cells #[.slice A0_0 l0_0.length c0_0, .slice A0_1 l0_1.length c0_1, .bool a0_2] 25 (0, 0)) (by (with_reducible repeat (first | refine blk_drewN ?_ _ | refine blk_drew ?_ | refine blk_alloc ?_ _)); exact BK228.out) hb)
                          have n10_ := Aside0.mk (blk_below (g := gb239) (o := .cells #[.slice Ao23 t231.length co23, .slice Ao27 t234.length co27, .bool t237] 25 (0, 0)) (by (with_reducible repeat (first | refine blk_drewN ?_ _ | refine blk_drew ?_ | refine blk_alloc ?_ _)); exact BK239.out) hb)
                          have n11_ := Aside0.mk (blk_below (g := gb251) (o := .cells #[.slice Ao56 t243.length co56, .slice Ao61 t246.length co61, .bool t249] 25 (0, 0)) (by (with_reducible repeat (first | refine blk_drewN ?_ _ | refine blk_drew ?_ | refine blk_alloc ?_ _)); exact BK251.out) hb)
                          have n12_ := Aside0.mk (below_step (by repeat (first | (with_reducible first | exact HB.out | apply below_alloc | apply pw_below_drewN | apply below_drew1 | refine below_set ?_ GE227.out | refine below_set ?_ GE228.out | refine below_set ?_ GE239.out | refine below_set ?_ GE251.out) | exact HB.out)) hb)
                          clear HO_11
                          clear HO_240000
                          clear HO_240001
                          clear HO245
                          clear HO248
                          clear HO254
                          clear HO257
                          clear BK227
                          clear BK228
                          clear BK239
                          clear BK251
                          clear HB
                          have HO_11 := n0_
                          have HO_240000 := n1_
                          have HO_240001 := n2_
                          have HO245 := n3_
                          have HO248 := n4_
                          have HO254 := n5_
                          have HO257 := n6_
                          have HO261 := n7_
                          have BK227 := n8_
                          have BK228 := n9_
                          have BK239 := n10_
                          have BK251 := n11_
                          have HB := n12_
                          clear n0_ n1_ n2_ n3_ n4_ n5_ n6_ n7_ n8_ n9_ n10_ n11_ n12_
                          (try clear hb)
                          (try clear hb2)
                          (try clear hk)
                          (try clear hi)
                          (try clear ho0)
                          obtain ⟨Ao66, co66, eo66⟩ := Kd.R_slice HO254.out
                          (first | subst eo66 | (injection eo66 with f1_ f2_ f3_; have f4_ := f1_.symm; have f5_ := f3_.symm; clear f1_ f2_ f3_; subst f4_; subst f5_))
                          obtain ⟨Ao67, co67, eo67⟩ := Kd.R_slice HO261.out
                          (first | subst eo67 | (injection eo67 with f1_ f2_ f3_; have f4_ := f1_.symm; have f5_ := f3_.symm; clear f1_ f2_ f3_; subst f4_; subst f5_))
                          refine hK.out _ _ ⟨(blk_cell BK239.out 0).trans rfl, (blk_cell BK239.out 1).trans rfl, (blk_cell BK239.out 2).trans rfl, (blk_cell BK228.out 0).trans rfl, (blk_cell BK228.out 1).trans rfl, (blk_cell BK228.out 2).trans rfl⟩ (fun hHeld => ?_)
                          clear hK K
                          refine norm_ (a' := ?_) ?_ ?_
                          rotate_left
                          · show Act.put _ (some 61) _ = _
                            simp only [Act.put, List.setIfInBounds_toArray, List.set_cons_zero, List.set_cons_succ, i64_w, i32_w]
                            rfl
                          refine one_ (i := 6) (N := some 62) #[true, true, true, true, true, true, true, false, false, false, false, false, false, false, false, false, false] rfl rfl (one_of HT_.out (by kernel_rfl)) (by decide) (fun K hK => ?_)
                          refine goes_ Try.func18 (by kernel_rfl) rfl #[.slice Ao66 t252.length co66, .slice Ao67 t259.length co67] (by rfl) rfl rfl (by (try simp only [List.map_toArray, List.map_cons, List.map_nil]); first | done | rfl | (simp only [List.length_drop, List.length_take]; rfl)) ?_
                          with_reducible refine (copyholdref01_Strings.calls k2 _ _ t252 _ _ t259 true _ ?side1 ?side2 ?side3 ?side4 A37.out).mono ?_
                          (case side1 => repeat (first | exact (Kd.R_reads' HO254.out).2.2 | (with_reducible refine Kd.C_alloc ?_ _) | (with_reducible refine Kd.C_drewN ?_ _) | (with_reducible refine Kd.C_drew ?_)))
                          (case side2 => exact (Kd.R_reads' HO254.out).2.1)
                          (case side3 => repeat (first | exact (Kd.R_reads' HO261.out).2.2 | (with_reducible refine Kd.C_alloc ?_ _) | (with_reducible refine Kd.C_drewN ?_ _) | (with_reducible refine Kd.C_drew ?_)))
                          (case side4 => exact (Kd.R_reads' HO261.out).2.1)
                          rintro e w' ⟨rfl, ⟨nd, rfl⟩⟩
                          refine ⟨_, rfl, ?_⟩
                          obtain ⟨Ao68, co68, eo68⟩ := Kd.R_slice HO_11.out
                          (first | subst eo68 | (injection eo68 with f1_ f2_ f3_; have f4_ := f1_.symm; have f5_ := f3_.symm; clear f1_ f2_ f3_; subst f4_; subst f5_))
                          refine hK.out _ _ ⟨(blk_cell BK239.out 0).trans rfl, (blk_cell BK239.out 1).trans rfl, (blk_cell BK239.out 2).trans rfl, (blk_cell BK228.out 0).trans rfl, (blk_cell BK228.out 1).trans rfl, (blk_cell BK228.out 2).trans rfl⟩ (fun hHeld => ?_)
                          clear hK K
                          refine norm_ (a' := ?_) ?_ ?_
                          rotate_left
                          · show Act.put _ (some 62) _ = _
                            simp only [Act.put, List.setIfInBounds_toArray, List.set_cons_zero, List.set_cons_succ, i64_w, i32_w]
                            rfl
                          refine pure_ (i := 7) (N := some 63) (v := ?_) (a' := ?_) #[true, true, true, true, true, true, true, true, false, false, false, false, false, false, false, false, false] rfl rfl (any_of HT_.out (by kernel_rfl)) (fun _ _ _ h => h) (Or.inl ⟨by rfl, ?_⟩) ?_ ?_
                          rotate_left
                          · intro w'
                            go_simp
                            with_reducible rfl
                          rotate_left
                          · simp only [Act.put, List.setIfInBounds_toArray, List.set_cons_zero, List.set_cons_succ, i64_w, i32_w]
                            rfl
                          refine pure_ (i := 9) (N := some 65) (v := ?_) (a' := ?_) #[true, true, true, true, true, true, true, true, false, true, false, false, false, false, false, false, false] rfl rfl (any_of HT_.out (by kernel_rfl)) (fun _ _ _ h => h) (Or.inl ⟨by rfl, ?_⟩) ?_ ?_
                          rotate_left
                          · intro w'
                            go_simp
                            with_reducible rfl
                          rotate_left
                          · simp only [Act.put, List.setIfInBounds_toArray, List.set_cons_zero, List.set_cons_succ, i64_w, i32_w]
                            rfl
                          refine take_ (i := 8) (N := some 64) (v := ?_) (a' := ?_) #[true, true, true, true, true, true, true, true, true, true, false, false, false, false, false, false, false] rfl rfl (take_ofW HT_.out HW_.out (by kernel_rfl)) (fun _ _ _ h => h) (Or.inl ⟨by rfl, ?_⟩) hHeld ?_ ?_
                          rotate_left
                          · rintro w' ⟨s0, s1, s2, s3, s4, s5⟩
                            go_simp
                            with_reducible rfl
                          rotate_left
                          · simp only [Act.put, List.setIfInBounds_toArray, List.set_cons_zero, List.set_cons_succ, i64_w, i32_w]
                            rfl
                          refine take_ (i := 12) (N := some 68) (v := ?_) (a' := ?_) #[true, true, true, true, true, true, true, true, true, true, false, false, true, false, false, false, false] rfl rfl (take_ofW HT_.out HW_.out (by kernel_rfl)) (fun _ _ _ h => h) (Or.inl ⟨by rfl, ?_⟩) hHeld ?_ ?_
                          rotate_left
                          · rintro w' ⟨s0, s1, s2, s3, s4, s5⟩
                            go_simp
                            with_reducible rfl
                          rotate_left
                          · simp only [Act.put, List.setIfInBounds_toArray, List.set_cons_zero, List.set_cons_succ, i64_w, i32_w]
                            rfl
                          refine one_ (i := 10) (N := some 66) #[true, true, true, true, true, true, true, true, true, true, true, false, true, false, false, false, false] rfl rfl (one_of HT_.out (by kernel_rfl)) (by decide) (fun K hK => ?_)
                          refine goes_ Try.func11 (by kernel_rfl) rfl #[.agg #[.slice A0_0 l0_0.length c0_0, .slice A0_1 l0_1.length c0_1, .bool a0_2], .slice Ao68 x11_2.length co68] (by rfl) rfl rfl (by (try simp only [List.map_toArray, List.map_cons, List.map_nil]); first | done | rfl | (simp only [List.length_drop, List.length_take]; rfl)) ?_
                          with_reducible refine (disk_Crash.calls _ _ l0_0 _ _ l0_1 a0_2 _ _ x11_2 t263 t266 t269 _ ?side1 ?side2 ?side3 ?side4 ?side5 ?side6 A39.out).mono ?_
                          (case side1 => repeat (first | exact (Kd.C_below HR0_0.out (by repeat (first | (with_reducible first | exact HB.out | apply below_alloc | apply pw_below_drewN | apply below_drew1 | refine below_set ?_ GE227.out | refine below_set ?_ GE228.out | refine below_set ?_ GE239.out | refine below_set ?_ GE251.out) | exact HB.out))) | (with_reducible refine Kd.C_alloc ?_ _) | (with_reducible refine Kd.C_drewN ?_ _) | (with_reducible refine Kd.C_drew ?_)))
                          (case side2 => exact HC0_0.out)
                          (case side3 => repeat (first | exact (Kd.C_below HR0_1.out (by repeat (first | (with_reducible first | exact HB.out | apply below_alloc | apply pw_below_drewN | apply below_drew1 | refine below_set ?_ GE227.out | refine below_set ?_ GE228.out | refine below_set ?_ GE239.out | refine below_set ?_ GE251.out) | exact HB.out))) | (with_reducible refine Kd.C_alloc ?_ _) | (with_reducible refine Kd.C_drewN ?_ _) | (with_reducible refine Kd.C_drew ?_)))
                          (case side4 => exact HC0_1.out)
                          (case side5 => repeat (first | exact (Kd.R_reads' HO_11.out).2.2 | (with_reducible refine Kd.C_alloc ?_ _) | (with_reducible refine Kd.C_drewN ?_ _) | (with_reducible refine Kd.C_drew ?_)))
                          (case side6 => exact (Kd.R_reads' HO_11.out).2.1)
                          rintro e w69 ⟨v264, v267, rfl, ho0, ho1, hb⟩
                          refine ⟨_, rfl, ?_⟩
                          have n0_ := Aside0.mk (Kd.R_below (by (with_reducible repeat (first | apply Kd.R_alloc | apply Kd.R_drewN | apply Kd.R_drew)); exact HO_11.out) hb)
                          have n1_ := Aside0.mk (Kd.V_mono (Kd.V_told (Kd.V_told (Kd.V_old (by (with_reducible repeat (first | apply Kd.V_alloc | apply Kd.V_drewN | apply Kd.V_drew)); exact HO_240000.out) hb) (Kd.R_base ho0)) (Kd.R_base ho1)) (fun _ h_ => h_.1))
                          have n2_ := Aside0.mk (Kd.V_mono (Kd.V_told (Kd.V_told (Kd.V_old (by (with_reducible repeat (first | apply Kd.V_alloc | apply Kd.V_drewN | apply Kd.V_drew)); exact HO_240001.out) hb) (Kd.R_base ho0)) (Kd.R_base ho1)) (fun _ h_ => h_.1))
                          have n3_ := Aside0.mk (Kd.V_mono (Kd.V_told (Kd.V_told (Kd.V_old (by (with_reducible repeat (first | apply Kd.V_alloc | apply Kd.V_drewN | apply Kd.V_drew)); exact HO245.out) hb) (Kd.R_base ho0)) (Kd.R_base ho1)) (fun _ h_ => h_.1))
                          have n4_ := Aside0.mk (Kd.V_mono (Kd.V_told (Kd.V_told (Kd.V_old (by (with_reducible repeat (first | apply Kd.V_alloc | apply Kd.V_drewN | apply Kd.V_drew)); exact HO248.out) hb) (Kd.R_base ho0)) (Kd.R_base ho1)) (fun _ h_ => h_.1))
                          have n5_ := Aside0.mk (Kd.R_elder' (by (with_reducible repeat (first | apply Kd.R_alloc | apply Kd.R_drewN | apply Kd.R_drew)); exact HO254.out) (Kd.R_base ho0) hb)
                          have n6_ := Aside0.mk (Kd.R_elder' (by (with_reducible repeat (first | apply Kd.R_alloc | apply Kd.R_drewN | apply Kd.R_drew)); exact HO257.out) (Kd.R_base ho1) hb)
                          have n7_ := Aside0.mk (Kd.R_elder' (by (with_reducible repeat (first | apply Kd.R_alloc | apply Kd.R_drewN | apply Kd.R_drew)); exact HO261.out) (Kd.R_base ho0) hb)
                          have n8_ := Aside0.mk (Kd.R_lower (Kd.R_new' (Kd.R_new' ho0 (Kd.R_lt (by (with_reducible repeat (first | apply Kd.R_alloc | apply Kd.R_drewN | apply Kd.R_drew)); exact HO254.out))) (Kd.R_lt (by (with_reducible repeat (first | apply Kd.R_alloc | apply Kd.R_drewN | apply Kd.R_drew)); exact HO261.out))) (below_size (by repeat (first | (with_reducible first | exact HB.out | apply below_alloc | apply pw_below_drewN | apply below_drew1 | refine below_set ?_ GE227.out | refine below_set ?_ GE228.out | refine below_set ?_ GE239.out | refine below_set ?_ GE251.out) | exact HB.out))))
                          have n9_ := Aside0.mk (Kd.R_lower (Kd.R_new' ho1 (Kd.R_lt (by (with_reducible repeat (first | apply Kd.R_alloc | apply Kd.R_drewN | apply Kd.R_drew)); exact HO257.out))) (below_size (by repeat (first | (with_reducible first | exact HB.out | apply below_alloc | apply pw_below_drewN | apply below_drew1 | refine below_set ?_ GE227.out | refine below_set ?_ GE228.out | refine below_set ?_ GE239.out | refine below_set ?_ GE251.out) | exact HB.out))))
                          have n10_ := Aside0.mk (blk_below (g := gb227) (o := .cells #[.slice A0_0 l0_0.length c0_0, .slice A0_1 l0_1.length c0_1, .bool a0_2, .slice A0_3 l0_3.length c0_3, .int .i64 a0_4, .string a0_5] 45 (0, 0)) (by (with_reducible repeat (first | refine blk_drewN ?_ _ | refine blk_drew ?_ | refine blk_alloc ?_ _)); exact BK227.out) hb)
                          have n11_ := Aside0.mk (blk_below (g := gb228) (o := .cells #[.slice A0_0 l0_0.length c0_0, .slice A0_1 l0_1.length c0_1, .bool a0_2] 25 (0, 0)) (by (with_reducible repeat (first | refine blk_drewN ?_ _ | refine blk_drew ?_ | refine blk_alloc ?_ _)); exact BK228.out) hb)
                          have n12_ := Aside0.mk (blk_below (g := gb239) (o := .cells #[.slice Ao23 t231.length co23, .slice Ao27 t234.length co27, .bool t237] 25 (0, 0)) (by (with_reducible repeat (first | refine blk_drewN ?_ _ | refine blk_drew ?_ | refine blk_alloc ?_ _)); exact BK239.out) hb)
                          have n13_ := Aside0.mk (blk_below (g := gb251) (o := .cells #[.slice Ao56 t243.length co56, .slice Ao61 t246.length co61, .bool t249] 25 (0, 0)) (by (with_reducible repeat (first | refine blk_drewN ?_ _ | refine blk_drew ?_ | refine blk_alloc ?_ _)); exact BK251.out) hb)
                          have n14_ := Aside0.mk (below_step (by repeat (first | (with_reducible first | exact HB.out | apply below_alloc | apply pw_below_drewN | apply below_drew1 | refine below_set ?_ GE227.out | refine below_set ?_ GE228.out | refine below_set ?_ GE239.out | refine below_set ?_ GE251.out) | exact HB.out)) hb)
                          clear HO_11
                          clear HO_240000
                          clear HO_240001
                          clear HO245
                          clear HO248
                          clear HO254
                          clear HO257
                          clear HO261
                          clear BK227
                          clear BK228
                          clear BK239
                          clear BK251
                          clear HB
                          have HO_11 := n0_
                          have HO_240000 := n1_
                          have HO_240001 := n2_
                          have HO245 := n3_
                          have HO248 := n4_
                          have HO254 := n5_
                          have HO257 := n6_
                          have HO261 := n7_
                          have HO265 := n8_
                          have HO268 := n9_
                          have BK227 := n10_
                          have BK228 := n11_
                          have BK239 := n12_
                          have BK251 := n13_
                          have HB := n14_
                          clear n0_ n1_ n2_ n3_ n4_ n5_ n6_ n7_ n8_ n9_ n10_ n11_ n12_ n13_ n14_
                          (try clear hb)
                          (try clear hb2)
                          (try clear hk)
                          (try clear hi)
                          (try clear ho0)
                          (try clear ho1)
                          refine hK.out _ _ ⟨(blk_cell BK239.out 0).trans rfl, (blk_cell BK239.out 1).trans rfl, (blk_cell BK239.out 2).trans rfl, (blk_cell BK228.out 0).trans rfl, (blk_cell BK228.out 1).trans rfl, (blk_cell BK228.out 2).trans rfl⟩ (fun hHeld => ?_)
                          clear hK K
                          refine norm_ (a' := ?_) ?_ ?_
                          rotate_left
                          · show Act.put _ (some 66) _ = _
                            simp only [Act.put, List.setIfInBounds_toArray, List.set_cons_zero, List.set_cons_succ, i64_w, i32_w]
                            rfl
                          refine pure_ (i := 11) (N := some 67) (v := ?_) (a' := ?_) #[true, true, true, true, true, true, true, true, true, true, true, true, true, false, false, false, false] rfl rfl (any_of HT_.out (by kernel_rfl)) (fun _ _ _ h => h) (Or.inl ⟨by rfl, ?_⟩) ?_ ?_
                          rotate_left
                          · intro w'
                            go_simp
                            with_reducible rfl
                          rotate_left
                          · simp only [Act.put, List.setIfInBounds_toArray, List.set_cons_zero, List.set_cons_succ, i64_w, i32_w]
                            rfl
                          refine one_ (i := 13) (N := some 69) #[true, true, true, true, true, true, true, true, true, true, true, true, true, true, false, false, false] rfl rfl (one_of HT_.out (by kernel_rfl)) (by decide) (fun K hK => ?_)
                          refine goes_ Try.func19 (by kernel_rfl) rfl #[.agg #[.slice A0_0 l0_0.length c0_0, .slice A0_1 l0_1.length c0_1, .bool a0_2]] (by rfl) rfl rfl (by (try simp only [List.map_toArray, List.map_cons, List.map_nil]); first | done | rfl | (simp only [List.length_drop, List.length_take]; rfl)) ?_
                          with_reducible refine (disk_Image.calls _ _ l0_0 _ _ l0_1 a0_2 t270 _ ?side1 ?side2 ?side3 ?side4 A40.out).mono ?_
                          (case side1 => repeat (first | exact (Kd.C_below HR0_0.out HB.out) | (with_reducible refine Kd.C_alloc ?_ _) | (with_reducible refine Kd.C_drewN ?_ _) | (with_reducible refine Kd.C_drew ?_)))
                          (case side2 => exact HC0_0.out)
                          (case side3 => repeat (first | exact (Kd.C_below HR0_1.out HB.out) | (with_reducible refine Kd.C_alloc ?_ _) | (with_reducible refine Kd.C_drewN ?_ _) | (with_reducible refine Kd.C_drew ?_)))
                          (case side4 => exact HC0_1.out)
                          rintro e w70 ⟨v271, rfl, ho0, hb⟩
                          refine ⟨_, rfl, ?_⟩
                          have n0_ := Aside0.mk (Kd.R_below (by (with_reducible repeat (first | apply Kd.R_alloc | apply Kd.R_drewN | apply Kd.R_drew)); exact HO_11.out) hb)
                          have n1_ := Aside0.mk (Kd.V_elder' (by (with_reducible repeat (first | apply Kd.V_alloc | apply Kd.V_drewN | apply Kd.V_drew)); exact HO_240000.out) (Kd.R_base ho0) hb)
                          have n2_ := Aside0.mk (Kd.V_elder' (by (with_reducible repeat (first | apply Kd.V_alloc | apply Kd.V_drewN | apply Kd.V_drew)); exact HO_240001.out) (Kd.R_base ho0) hb)
                          have n3_ := Aside0.mk (Kd.V_elder' (by (with_reducible repeat (first | apply Kd.V_alloc | apply Kd.V_drewN | apply Kd.V_drew)); exact HO245.out) (Kd.R_base ho0) hb)
                          have n4_ := Aside0.mk (Kd.V_elder' (by (with_reducible repeat (first | apply Kd.V_alloc | apply Kd.V_drewN | apply Kd.V_drew)); exact HO248.out) (Kd.R_base ho0) hb)
                          have n5_ := Aside0.mk (Kd.R_elder' (by (with_reducible repeat (first | apply Kd.R_alloc | apply Kd.R_drewN | apply Kd.R_drew)); exact HO254.out) (Kd.R_base ho0) hb)
                          have n6_ := Aside0.mk (Kd.R_below (by (with_reducible repeat (first | apply Kd.R_alloc | apply Kd.R_drewN | apply Kd.R_drew)); exact HO257.out) hb)
                          have n7_ := Aside0.mk (Kd.R_elder' (by (with_reducible repeat (first | apply Kd.R_alloc | apply Kd.R_drewN | apply Kd.R_drew)); exact HO261.out) (Kd.R_base ho0) hb)
                          have n8_ := Aside0.mk (Kd.R_elder' (by (with_reducible repeat (first | apply Kd.R_alloc | apply Kd.R_drewN | apply Kd.R_drew)); exact HO265.out) (Kd.R_base ho0) hb)
                          have n9_ := Aside0.mk (Kd.R_below (by (with_reducible repeat (first | apply Kd.R_alloc | apply Kd.R_drewN | apply Kd.R_drew)); exact HO268.out) hb)
                          have n10_ := Aside0.mk (Kd.R_lower (Kd.R_new' (Kd.R_new' (Kd.R_new' ho0 (Kd.R_lt (by (with_reducible repeat (first | apply Kd.R_alloc | apply Kd.R_drewN | apply Kd.R_drew)); exact HO254.out))) (Kd.R_lt (by (with_reducible repeat (first | apply Kd.R_alloc | apply Kd.R_drewN | apply Kd.R_drew)); exact HO261.out))) (Kd.R_lt (by (with_reducible repeat (first | apply Kd.R_alloc | apply Kd.R_drewN | apply Kd.R_drew)); exact HO265.out))) (below_size (by repeat (first | (with_reducible first | exact HB.out | apply below_alloc | apply pw_below_drewN | apply below_drew1 | refine below_set ?_ GE227.out | refine below_set ?_ GE228.out | refine below_set ?_ GE239.out | refine below_set ?_ GE251.out) | exact HB.out))))
                          have n11_ := Aside0.mk (blk_below (g := gb227) (o := .cells #[.slice A0_0 l0_0.length c0_0, .slice A0_1 l0_1.length c0_1, .bool a0_2, .slice A0_3 l0_3.length c0_3, .int .i64 a0_4, .string a0_5] 45 (0, 0)) (by (with_reducible repeat (first | refine blk_drewN ?_ _ | refine blk_drew ?_ | refine blk_alloc ?_ _)); exact BK227.out) hb)
                          have n12_ := Aside0.mk (blk_below (g := gb228) (o := .cells #[.slice A0_0 l0_0.length c0_0, .slice A0_1 l0_1.length c0_1, .bool a0_2] 25 (0, 0)) (by (with_reducible repeat (first | refine blk_drewN ?_ _ | refine blk_drew ?_ | refine blk_alloc ?_ _)); exact BK228.out) hb)
                          have n13_ := Aside0.mk (blk_below (g := gb239) (o := .cells #[.slice Ao23 t231.length co23, .slice Ao27 t234.length co27, .bool t237] 25 (0, 0)) (by (with_reducible repeat (first | refine blk_drewN ?_ _ | refine blk_drew ?_ | refine blk_alloc ?_ _)); exact BK239.out) hb)
                          have n14_ := Aside0.mk (blk_below (g := gb251) (o := .cells #[.slice Ao56 t243.length co56, .slice Ao61 t246.length co61, .bool t249] 25 (0, 0)) (by (with_reducible repeat (first | refine blk_drewN ?_ _ | refine blk_drew ?_ | refine blk_alloc ?_ _)); exact BK251.out) hb)
                          have n15_ := Aside0.mk (below_step (by repeat (first | (with_reducible first | exact HB.out | apply below_alloc | apply pw_below_drewN | apply below_drew1 | refine below_set ?_ GE227.out | refine below_set ?_ GE228.out | refine below_set ?_ GE239.out | refine below_set ?_ GE251.out) | exact HB.out)) hb)
                          clear HO_11
                          clear HO_240000
                          clear HO_240001
                          clear HO245
                          clear HO248
                          clear HO254
                          clear HO257
                          clear HO261
                          clear HO265
                          clear HO268
                          clear BK227
                          clear BK228
                          clear BK239
                          clear BK251
                          clear HB
                          have HO_11 := n0_
                          have HO_240000 := n1_
                          have HO_240001 := n2_
                          have HO245 := n3_
                          have HO248 := n4_
                          have HO254 := n5_
                          have HO257 := n6_
                          have HO261 := n7_
                          have HO265 := n8_
                          have HO268 := n9_
                          have HO272 := n10_
                          have BK227 := n11_
                          have BK228 := n12_
                          have BK239 := n13_
                          have BK251 := n14_
                          have HB := n15_
                          clear n0_ n1_ n2_ n3_ n4_ n5_ n6_ n7_ n8_ n9_ n10_ n11_ n12_ n13_ n14_ n15_
                          (try clear hb)
                          (try clear hb2)
                          (try clear hk)
                          (try clear hi)
                          (try clear ho0)
                          obtain ⟨Ao71, co71, eo71⟩ := Kd.R_slice HO265.out
                          (first | subst eo71 | (injection eo71 with f1_ f2_ f3_; have f4_ := f1_.symm; have f5_ := f3_.symm; clear f1_ f2_ f3_; subst f4_; subst f5_))
                          obtain ⟨Ao72, co72, eo72⟩ := Kd.R_slice HO272.out
                          (first | subst eo72 | (injection eo72 with f1_ f2_ f3_; have f4_ := f1_.symm; have f5_ := f3_.symm; clear f1_ f2_ f3_; subst f4_; subst f5_))
                          refine hK.out _ _ ⟨(blk_cell BK239.out 0).trans rfl, (blk_cell BK239.out 1).trans rfl, (blk_cell BK239.out 2).trans rfl, (blk_cell BK228.out 0).trans rfl, (blk_cell BK228.out 1).trans rfl, (blk_cell BK228.out 2).trans rfl⟩ (fun hHeld => ?_)
                          clear hK K
                          refine norm_ (a' := ?_) ?_ ?_
                          rotate_left
                          · show Act.put _ (some 69) _ = _
                            simp only [Act.put, List.setIfInBounds_toArray, List.set_cons_zero, List.set_cons_succ, i64_w, i32_w]
                            rfl
                          refine one_ (i := 14) (N := some 70) #[true, true, true, true, true, true, true, true, true, true, true, true, true, true, true, false, false] rfl rfl (one_of HT_.out (by kernel_rfl)) (by decide) (fun K hK => ?_)
                          refine goes_ Try.func18 (by kernel_rfl) rfl #[.slice Ao71 t263.length co71, .slice Ao72 t270.length co72] (by rfl) rfl rfl (by (try simp only [List.map_toArray, List.map_cons, List.map_nil]); first | done | rfl | (simp only [List.length_drop, List.length_take]; rfl)) ?_
                          with_reducible refine (copyholdref01_Strings.calls k2 _ _ t263 _ _ t270 true _ ?side1 ?side2 ?side3 ?side4 A41.out).mono ?_
                          (case side1 => repeat (first | exact (Kd.R_reads' HO265.out).2.2 | (with_reducible refine Kd.C_alloc ?_ _) | (with_reducible refine Kd.C_drewN ?_ _) | (with_reducible refine Kd.C_drew ?_)))
                          (case side2 => exact (Kd.R_reads' HO265.out).2.1)
                          (case side3 => repeat (first | exact (Kd.R_reads' HO272.out).2.2 | (with_reducible refine Kd.C_alloc ?_ _) | (with_reducible refine Kd.C_drewN ?_ _) | (with_reducible refine Kd.C_drew ?_)))
                          (case side4 => exact (Kd.R_reads' HO272.out).2.1)
                          rintro e w' ⟨rfl, ⟨nd, rfl⟩⟩
                          refine ⟨_, rfl, ?_⟩
                          refine hK.out _ _ ⟨(blk_cell BK239.out 0).trans rfl, (blk_cell BK239.out 1).trans rfl, (blk_cell BK239.out 2).trans rfl, (blk_cell BK228.out 0).trans rfl, (blk_cell BK228.out 1).trans rfl, (blk_cell BK228.out 2).trans rfl⟩ (fun hHeld => ?_)
                          clear hK K
                          refine norm_ (a' := ?_) ?_ ?_
                          rotate_left
                          · show Act.put _ (some 70) _ = _
                            simp only [Act.put, List.setIfInBounds_toArray, List.set_cons_zero, List.set_cons_succ, i64_w, i32_w]
                            rfl
                          refine pure_ (i := 15) (N := some 71) (v := ?_) (a' := ?_) #[true, true, true, true, true, true, true, true, true, true, true, true, true, true, true, true, false] rfl rfl (any_of HT_.out (by kernel_rfl)) (fun _ _ _ h => h) (Or.inl ⟨by rfl, ?_⟩) ?_ ?_
                          rotate_left
                          · intro w'
                            go_simp
                            with_reducible rfl
                          rotate_left
                          · simp only [Act.put, List.setIfInBounds_toArray, List.set_cons_zero, List.set_cons_succ, i64_w, i32_w]
                            rfl
                          refine pure_ (i := 16) (N := some 15) (v := ?_) (a' := ?_) #[true, true, true, true, true, true, true, true, true, true, true, true, true, true, true, true, true] rfl rfl (any_of HT_.out (by kernel_rfl)) (fun _ _ _ h => h) (Or.inl ⟨by rfl, ?_⟩) ?_ ?_
                          rotate_left
                          · intro w'
                            go_simp
                            with_reducible rfl
                          rotate_left
                          · simp only [Act.put, List.setIfInBounds_toArray, List.set_cons_zero, List.set_cons_succ, i64_w, i32_w]
                            rfl
                          refine done_ (done_of HT_.out (by kernel_rfl)) ?_
                          have hnb73 := NB239_227.out
                          have hnc73 := NB227_239.out
                          have hcz74_0 : w70.cell? ⟨gb239, 0, none⟩ = some (.slice Ao23 t231.length co23) := (blk_cell BK239.out 0).trans rfl
                          have hcz74_1 : w70.cell? ⟨gb239, 1, none⟩ = some (.slice Ao27 t234.length co27) := (blk_cell BK239.out 1).trans rfl
                          have hcz74_2 : w70.cell? ⟨gb239, 2, none⟩ = some (.bool t237) := (blk_cell BK239.out 2).trans rfl
                          have hfz74_0 := blk_frozen BK239.out 0
                          have hfz74_1 := blk_frozen BK239.out 1
                          have hfz74_2 := blk_frozen BK239.out 2
                          try go_wp2_with (first | (go_at_call 20; (with_reducible refine (copyholdref04_Right.calls k2 _ _ t231 _ _ t234 t237 true _ ?side1 ?side2 ?side3 ?side4 A45.out).mono ?_); (case side1 => repeat (first | exact (Kd.V_reads' HO_240000.out).2.2 | (with_reducible refine Kd.C_alloc ?_ _) | (with_reducible refine Kd.C_drewN ?_ _) | (with_reducible refine Kd.C_drew ?_))); (case side2 => exact (Kd.V_reads' HO_240000.out).2.1); (case side3 => repeat (first | exact (Kd.V_reads' HO_240001.out).2.2 | (with_reducible refine Kd.C_alloc ?_ _) | (with_reducible refine Kd.C_drewN ?_ _) | (with_reducible refine Kd.C_drew ?_))); (case side4 => exact (Kd.V_reads' HO_240001.out).2.1); rintro e w75 ⟨rfl, hb⟩; have n0_ := Aside0.mk (Kd.R_below (by (with_reducible repeat (first | apply Kd.R_alloc | apply Kd.R_drewN | apply Kd.R_drew)); exact HO_11.out) hb); have n1_ := Aside0.mk (Kd.V_below (by (with_reducible repeat (first | apply Kd.V_alloc | apply Kd.V_drewN | apply Kd.V_drew)); exact HO_240000.out) hb); have n2_ := Aside0.mk (Kd.V_below (by (with_reducible repeat (first | apply Kd.V_alloc | apply Kd.V_drewN | apply Kd.V_drew)); exact HO_240001.out) hb); have n3_ := Aside0.mk (Kd.V_below (by (with_reducible repeat (first | apply Kd.V_alloc | apply Kd.V_drewN | apply Kd.V_drew)); exact HO245.out) hb); have n4_ := Aside0.mk (Kd.V_below (by (with_reducible repeat (first | apply Kd.V_alloc | apply Kd.V_drewN | apply Kd.V_drew)); exact HO248.out) hb); have n5_ := Aside0.mk (Kd.R_below (by (with_reducible repeat (first | apply Kd.R_alloc | apply Kd.R_drewN | apply Kd.R_drew)); exact HO254.out) hb); have n6_ := Aside0.mk (Kd.R_below (by (with_reducible repeat (first | apply Kd.R_alloc | apply Kd.R_drewN | apply Kd.R_drew)); exact HO257.out) hb); have n7_ := Aside0.mk (Kd.R_below (by (with_reducible repeat (first | apply Kd.R_alloc | apply Kd.R_drewN | apply Kd.R_drew)); exact HO261.out) hb); have n8_ := Aside0.mk (Kd.R_below (by (with_reducible repeat (first | apply Kd.R_alloc | apply Kd.R_drewN | apply Kd.R_drew)); exact HO265.out) hb); have n9_ := Aside0.mk (Kd.R_below (by (with_reducible repeat (first | apply Kd.R_alloc | apply Kd.R_drewN | apply Kd.R_drew)); exact HO268.out) hb); have n10_ := Aside0.mk (Kd.R_below (by (with_reducible repeat (first | apply Kd.R_alloc | apply Kd.R_drewN | apply Kd.R_drew)); exact HO272.out) hb); have n11_ := Aside0.mk (blk_below (g := gb227) (o := .cells #[.slice A0_0 l0_0.length c0_0, .slice A0_1 l0_1.length c0_1, .bool a0_2, .slice A0_3 l0_3.length c0_3, .int .i64 a0_4, .string a0_5] 45 (0, 0)) (by (with_reducible repeat (first | refine blk_drewN ?_ _ | refine blk_drew ?_ | refine blk_alloc ?_ _)); exact BK227.out) hb); have n12_ := Aside0.mk (blk_below (g := gb228) (o := .cells #[.slice A0_0 l0_0.length c0_0, .slice A0_1 l0_1.length c0_1, .bool a0_2] 25 (0, 0)) (by (with_reducible repeat (first | refine blk_drewN ?_ _ | refine blk_drew ?_ | refine blk_alloc ?_ _)); exact BK228.out) hb); have n13_ := Aside0.mk (blk_below (g := gb239) (o := .cells #[.slice Ao23 t231.length co23, .slice Ao27 t234.length co27, .bool t237] 25 (0, 0)) (by (with_reducible repeat (first | refine blk_drewN ?_ _ | refine blk_drew ?_ | refine blk_alloc ?_ _)); exact BK239.out) hb); have n14_ := Aside0.mk (blk_below (g := gb251) (o := .cells #[.slice Ao56 t243.length co56, .slice Ao61 t246.length co61, .bool t249] 25 (0, 0)) (by (with_reducible repeat (first | refine blk_drewN ?_ _ | refine blk_drew ?_ | refine blk_alloc ?_ _)); exact BK251.out) hb); have n15_ := Aside0.mk (below_step (by repeat (first | (with_reducible first | exact HB.out | apply below_alloc | apply pw_below_drewN | apply below_drew1 | refine below_set ?_ GE227.out | refine below_set ?_ GE228.out | refine below_set ?_ GE239.out | refine below_set ?_ GE251.out) | exact HB.out)) hb); clear HO_11; clear HO_240000; clear HO_240001; clear HO245; clear HO248; clear HO254; clear HO257; clear HO261; clear HO265; clear HO268; clear HO272; clear BK227; clear BK228; clear BK239; clear BK251; clear HB; have HO_11 := n0_; have HO_240000 := n1_; have HO_240001 := n2_; have HO245 := n3_; have HO248 := n4_; have HO254 := n5_; have HO257 := n6_; have HO261 := n7_; have HO265 := n8_; have HO268 := n9_; have HO272 := n10_; have BK227 := n11_; have BK228 := n12_; have BK239 := n13_; have BK251 := n14_; have HB := n15_; clear n0_ n1_ n2_ n3_ n4_ n5_ n6_ n7_ n8_ n9_ n10_ n11_ n12_ n13_ n14_ n15_; (try clear hb); (try clear hb2); (try clear hk); (try clear hi); have hcz76_0 : w75.cell? ⟨gb251, 0, none⟩ = some (.slice Ao56 t243.length co56) := (blk_cell BK251.out 0).trans rfl; have hcz76_1 : w75.cell? ⟨gb251, 1, none⟩ = some (.slice Ao61 t246.length co61) := (blk_cell BK251.out 1).trans rfl; have hcz76_2 : w75.cell? ⟨gb251, 2, none⟩ = some (.bool t249) := (blk_cell BK251.out 2).trans rfl; have hfz76_0 := blk_frozen BK251.out 0; have hfz76_1 := blk_frozen BK251.out 1; have hfz76_2 := blk_frozen BK251.out 2) | (go_at_call 20; (with_reducible refine (copyholdref04_Right.calls k2 _ _ t243 _ _ t246 t249 true _ ?side1 ?side2 ?side3 ?side4 A47.out).mono ?_); (case side1 => repeat (first | exact (Kd.V_reads' HO245.out).2.2 | (with_reducible refine Kd.C_alloc ?_ _) | (with_reducible refine Kd.C_drewN ?_ _) | (with_reducible refine Kd.C_drew ?_))); (case side2 => exact (Kd.V_reads' HO245.out).2.1); (case side3 => repeat (first | exact (Kd.V_reads' HO248.out).2.2 | (with_reducible refine Kd.C_alloc ?_ _) | (with_reducible refine Kd.C_drewN ?_ _) | (with_reducible refine Kd.C_drew ?_))); (case side4 => exact (Kd.V_reads' HO248.out).2.1); rintro e w77 ⟨rfl, hb⟩; have n0_ := Aside0.mk (Kd.R_below (by (with_reducible repeat (first | apply Kd.R_alloc | apply Kd.R_drewN | apply Kd.R_drew)); exact HO_11.out) hb); have n1_ := Aside0.mk (Kd.V_below (by (with_reducible repeat (first | apply Kd.V_alloc | apply Kd.V_drewN | apply Kd.V_drew)); exact HO_240000.out) hb); have n2_ := Aside0.mk (Kd.V_below (by (with_reducible repeat (first | apply Kd.V_alloc | apply Kd.V_drewN | apply Kd.V_drew)); exact HO_240001.out) hb); have n3_ := Aside0.mk (Kd.V_below (by (with_reducible repeat (first | apply Kd.V_alloc | apply Kd.V_drewN | apply Kd.V_drew)); exact HO245.out) hb); have n4_ := Aside0.mk (Kd.V_below (by (with_reducible repeat (first | apply Kd.V_alloc | apply Kd.V_drewN | apply Kd.V_drew)); exact HO248.out) hb); have n5_ := Aside0.mk (Kd.R_below (by (with_reducible repeat (first | apply Kd.R_alloc | apply Kd.R_drewN | apply Kd.R_drew)); exact HO254.out) hb); have n6_ := Aside0.mk (Kd.R_below (by (with_reducible repeat (first | apply Kd.R_alloc | apply Kd.R_drewN | apply Kd.R_drew)); exact HO257.out) hb); have n7_ := Aside0.mk (Kd.R_below (by (with_reducible repeat (first | apply Kd.R_alloc | apply Kd.R_drewN | apply Kd.R_drew)); exact HO261.out) hb); have n8_ := Aside0.mk (Kd.R_below (by (with_reducible repeat (first | apply Kd.R_alloc | apply Kd.R_drewN | apply Kd.R_drew)); exact HO265.out) hb); have n9_ := Aside0.mk (Kd.R_below (by (with_reducible repeat (first | apply Kd.R_alloc | apply Kd.R_drewN | apply Kd.R_drew)); exact HO268.out) hb); have n10_ := Aside0.mk (Kd.R_below (by (with_reducible repeat (first | apply Kd.R_alloc | apply Kd.R_drewN | apply Kd.R_drew)); exact HO272.out) hb); have n11_ := Aside0.mk (blk_below (g := gb227) (o := .cells #[.slice A0_0 l0_0.length c0_0, .slice A0_1 l0_1.length c0_1, .bool a0_2, .slice A0_3 l0_3.length c0_3, .int .i64 a0_4, .string a0_5] 45 (0, 0)) (by (with_reducible repeat (first | refine blk_drewN ?_ _ | refine blk_drew ?_ | refine blk_alloc ?_ _)); exact BK227.out) hb); have n12_ := Aside0.mk (blk_below (g := gb228) (o := .cells #[.slice A0_0 l0_0.length c0_0, .slice A0_1 l0_1.length c0_1, .bool a0_2] 25 (0, 0)) (by (with_reducible repeat (first | refine blk_drewN ?_ _ | refine blk_drew ?_ | refine blk_alloc ?_ _)); exact BK228.out) hb); have n13_ := Aside0.mk (blk_below (g := gb239) (o := .cells #[.slice Ao23 t231.length co23, .slice Ao27 t234.length co27, .bool t237] 25 (0, 0)) (by (with_reducible repeat (first | refine blk_drewN ?_ _ | refine blk_drew ?_ | refine blk_alloc ?_ _)); exact BK239.out) hb); have n14_ := Aside0.mk (blk_below (g := gb251) (o := .cells #[.slice Ao56 t243.length co56, .slice Ao61 t246.length co61, .bool t249] 25 (0, 0)) (by (with_reducible repeat (first | refine blk_drewN ?_ _ | refine blk_drew ?_ | refine blk_alloc ?_ _)); exact BK251.out) hb); have n15_ := Aside0.mk (below_step (by repeat (first | (with_reducible first | exact HB.out | apply below_alloc | apply pw_below_drewN | apply below_drew1 | refine below_set ?_ GE227.out | refine below_set ?_ GE228.out | refine below_set ?_ GE239.out | refine below_set ?_ GE251.out) | exact HB.out)) hb); clear HO_11; clear HO_240000; clear HO_240001; clear HO245; clear HO248; clear HO254; clear HO257; clear HO261; clear HO265; clear HO268; clear HO272; clear BK227; clear BK228; clear BK239; clear BK251; clear HB; have HO_11 := n0_; have HO_240000 := n1_; have HO_240001 := n2_; have HO245 := n3_; have HO248 := n4_; have HO254 := n5_; have HO257 := n6_; have HO261 := n7_; have HO265 := n8_; have HO268 := n9_; have HO272 := n10_; have BK227 := n11_; have BK228 := n12_; have BK239 := n13_; have BK251 := n14_; have HB := n15_; clear n0_ n1_ n2_ n3_ n4_ n5_ n6_ n7_ n8_ n9_ n10_ n11_ n12_ n13_ n14_ n15_; (try clear hb); (try clear hb2); (try clear hk); (try clear hi); have hcz78_0 : w77.cell? ⟨gb228, 0, none⟩ = some (.slice A0_0 l0_0.length c0_0) := (blk_cell BK228.out 0).trans rfl; have hcz78_1 : w77.cell? ⟨gb228, 1, none⟩ = some (.slice A0_1 l0_1.length c0_1) := (blk_cell BK228.out 1).trans rfl; have hcz78_2 : w77.cell? ⟨gb228, 2, none⟩ = some (.bool a0_2) := (blk_cell BK228.out 2).trans rfl; have hfz78_0 := blk_frozen BK228.out 0; have hfz78_1 := blk_frozen BK228.out 1; have hfz78_2 := blk_frozen BK228.out 2) | (go_at_call 11; (with_reducible refine (disk_Crash.calls _ _ l0_0 _ _ l0_1 a0_2 _ _ l0_3 t276 t279 t282 _ ?side1 ?side2 ?side3 ?side4 ?side5 ?side6 A49.out).mono ?_); (case side1 => repeat (first | exact (Kd.C_below HR0_0.out HB.out) | (with_reducible refine Kd.C_alloc ?_ _) | (with_reducible refine Kd.C_drewN ?_ _) | (with_reducible refine Kd.C_drew ?_))); (case side2 => exact HC0_0.out); (case side3 => repeat (first | exact (Kd.C_below HR0_1.out HB.out) | (with_reducible refine Kd.C_alloc ?_ _) | (with_reducible refine Kd.C_drewN ?_ _) | (with_reducible refine Kd.C_drew ?_))); (case side4 => exact HC0_1.out); (case side5 => repeat (first | exact (Kd.C_below HR0_3.out HB.out) | (with_reducible refine Kd.C_alloc ?_ _) | (with_reducible refine Kd.C_drewN ?_ _) | (with_reducible refine Kd.C_drew ?_))); (case side6 => exact HC0_3.out); rintro e w79 ⟨v277, v280, rfl, ho0, ho1, hb⟩; have n0_ := Aside0.mk (Kd.R_below (by (with_reducible repeat (first | apply Kd.R_alloc | apply Kd.R_drewN | apply Kd.R_drew)); exact HO_11.out) hb); have n1_ := Aside0.mk (Kd.V_mono (Kd.V_told (Kd.V_told (Kd.V_old (by (with_reducible repeat (first | apply Kd.V_alloc | apply Kd.V_drewN | apply Kd.V_drew)); exact HO_240000.out) hb) (Kd.R_base ho0)) (Kd.R_base ho1)) (fun _ h_ => h_.1)); have n2_ := Aside0.mk (Kd.V_mono (Kd.V_told (Kd.V_told (Kd.V_old (by (with_reducible repeat (first | apply Kd.V_alloc | apply Kd.V_drewN | apply Kd.V_drew)); exact HO_240001.out) hb) (Kd.R_base ho0)) (Kd.R_base ho1)) (fun _ h_ => h_.1)); have n3_ := Aside0.mk (Kd.V_mono (Kd.V_told (Kd.V_told (Kd.V_old (by (with_reducible repeat (first | apply Kd.V_alloc | apply Kd.V_drewN | apply Kd.V_drew)); exact HO245.out) hb) (Kd.R_base ho0)) (Kd.R_base ho1)) (fun _ h_ => h_.1)); have n4_ := Aside0.mk (Kd.V_mono (Kd.V_told (Kd.V_told (Kd.V_old (by (with_reducible repeat (first | apply Kd.V_alloc | apply Kd.V_drewN | apply Kd.V_drew)); exact HO248.out) hb) (Kd.R_base ho0)) (Kd.R_base ho1)) (fun _ h_ => h_.1)); have n5_ := Aside0.mk (Kd.R_elder' (by (with_reducible repeat (first | apply Kd.R_alloc | apply Kd.R_drewN | apply Kd.R_drew)); exact HO254.out) (Kd.R_base ho0) hb); have n6_ := Aside0.mk (Kd.R_elder' (by (with_reducible repeat (first | apply Kd.R_alloc | apply Kd.R_drewN | apply Kd.R_drew)); exact HO257.out) (Kd.R_base ho1) hb); have n7_ := Aside0.mk (Kd.R_elder' (by (with_reducible repeat (first | apply Kd.R_alloc | apply Kd.R_drewN | apply Kd.R_drew)); exact HO261.out) (Kd.R_base ho0) hb); have n8_ := Aside0.mk (Kd.R_elder' (by (with_reducible repeat (first | apply Kd.R_alloc | apply Kd.R_drewN | apply Kd.R_drew)); exact HO265.out) (Kd.R_base ho0) hb); have n9_ := Aside0.mk (Kd.R_elder' (by (with_reducible repeat (first | apply Kd.R_alloc | apply Kd.R_drewN | apply Kd.R_drew)); exact HO268.out) (Kd.R_base ho1) hb); have n10_ := Aside0.mk (Kd.R_elder' (by (with_reducible repeat (first | apply Kd.R_alloc | apply Kd.R_drewN | apply Kd.R_drew)); exact HO272.out) (Kd.R_base ho0) hb); have n11_ := Aside0.mk (Kd.R_lower (Kd.R_new' (Kd.R_new' (Kd.R_new' (Kd.R_new' ho0 (Kd.R_lt (by (with_reducible repeat (first | apply Kd.R_alloc | apply Kd.R_drewN | apply Kd.R_drew)); exact HO254.out))) (Kd.R_lt (by (with_reducible repeat (first | apply Kd.R_alloc | apply Kd.R_drewN | apply Kd.R_drew)); exact HO261.out))) (Kd.R_lt (by (with_reducible repeat (first | apply Kd.R_alloc | apply Kd.R_drewN | apply Kd.R_drew)); exact HO265.out))) (Kd.R_lt (by (with_reducible repeat (first | apply Kd.R_alloc | apply Kd.R_drewN | apply Kd.R_drew)); exact HO272.out))) (below_size (by repeat (first | (with_reducible first | exact HB.out | apply below_alloc | apply pw_below_drewN | apply below_drew1 | refine below_set ?_ GE227.out | refine below_set ?_ GE228.out | refine below_set ?_ GE239.out | refine below_set ?_ GE251.out) | exact HB.out)))); have n12_ := Aside0.mk (Kd.R_lower (Kd.R_new' (Kd.R_new' ho1 (Kd.R_lt (by (with_reducible repeat (first | apply Kd.R_alloc | apply Kd.R_drewN | apply Kd.R_drew)); exact HO257.out))) (Kd.R_lt (by (with_reducible repeat (first | apply Kd.R_alloc | apply Kd.R_drewN | apply Kd.R_drew)); exact HO268.out))) (below_size (by repeat (first | (with_reducible first | exact HB.out | apply below_alloc | apply pw_below_drewN | apply below_drew1 | refine below_set ?_ GE227.out | refine below_set ?_ GE228.out | refine below_set ?_ GE239.out | refine below_set ?_ GE251.out) | exact HB.out)))); have n13_ := Aside0.mk (blk_below (g := gb227) (o := .cells #[.slice A0_0 l0_0.length c0_0, .slice A0_1 l0_1.length c0_1, .bool a0_2, .slice A0_3 l0_3.length c0_3, .int .i64 a0_4, .string a0_5] 45 (0, 0)) (by (with_reducible repeat (first | refine blk_drewN ?_ _ | refine blk_drew ?_ | refine blk_alloc ?_ _)); exact BK227.out) hb); have n14_ := Aside0.mk (blk_below (g := gb228) (o := .cells #[.slice A0_0 l0_0.length c0_0, .slice A0_1 l0_1.length c0_1, .bool a0_2] 25 (0, 0)) (by (with_reducible repeat (first | refine blk_drewN ?_ _ | refine blk_drew ?_ | refine blk_alloc ?_ _)); exact BK228.out) hb); have n15_ := Aside0.mk (blk_below (g := gb239) (o := .cells #[.slice Ao23 t231.length co23, .slice Ao27 t234.length co27, .bool t237] 25 (0, 0)) (by (with_reducible repeat (first | refine blk_drewN ?_ _ | refine blk_drew ?_ | refine blk_alloc ?_ _)); exact BK239.out) hb); have n16_ := Aside0.mk (blk_below (g := gb251) (o := .cells #[.slice Ao56 t243.length co56, .slice Ao61 t246.length co61, .bool t249] 25 (0, 0)) (by (with_reducible repeat (first | refine blk_drewN ?_ _ | refine blk_drew ?_ | refine blk_alloc ?_ _)); exact BK251.out) hb); have n17_ := Aside0.mk (below_step (by repeat (first | (with_reducible first | exact HB.out | apply below_alloc | apply pw_below_drewN | apply below_drew1 | refine below_set ?_ GE227.out | refine below_set ?_ GE228.out | refine below_set ?_ GE239.out | refine below_set ?_ GE251.out) | exact HB.out)) hb); clear HO_11; clear HO_240000; clear HO_240001; clear HO245; clear HO248; clear HO254; clear HO257; clear HO261; clear HO265; clear HO268; clear HO272; clear BK227; clear BK228; clear BK239; clear BK251; clear HB; have HO_11 := n0_; have HO_240000 := n1_; have HO_240001 := n2_; have HO245 := n3_; have HO248 := n4_; have HO254 := n5_; have HO257 := n6_; have HO261 := n7_; have HO265 := n8_; have HO268 := n9_; have HO272 := n10_; have HO278 := n11_; have HO281 := n12_; have BK227 := n13_; have BK228 := n14_; have BK239 := n15_; have BK251 := n16_; have HB := n17_; clear n0_ n1_ n2_ n3_ n4_ n5_ n6_ n7_ n8_ n9_ n10_ n11_ n12_ n13_ n14_ n15_ n16_ n17_; (try clear hb); (try clear hb2); (try clear hk); (try clear hi); (try clear ho0); (try clear ho1); obtain ⟨Ao80, co80, eo80⟩ := Kd.R_slice HO278.out; subst eo80; obtain ⟨Ao81, co81, eo81⟩ := Kd.R_slice HO281.out; subst eo81) | (go_at_call 20; (with_reducible refine (copyholdref04_Right.calls k2 _ _ t276 _ _ t279 t282 t283 _ ?side1 ?side2 ?side3 ?side4 A50.out).mono ?_); (case side1 => repeat (first | exact (Kd.R_reads' HO278.out).2.2 | (with_reducible refine Kd.C_alloc ?_ _) | (with_reducible refine Kd.C_drewN ?_ _) | (with_reducible refine Kd.C_drew ?_))); (case side2 => exact (Kd.R_reads' HO278.out).2.1); (case side3 => repeat (first | exact (Kd.R_reads' HO281.out).2.2 | (with_reducible refine Kd.C_alloc ?_ _) | (with_reducible refine Kd.C_drewN ?_ _) | (with_reducible refine Kd.C_drew ?_))); (case side4 => exact (Kd.R_reads' HO281.out).2.1); rintro e w82 ⟨rfl, hb⟩; have n0_ := Aside0.mk (Kd.R_below (by (with_reducible repeat (first | apply Kd.R_alloc | apply Kd.R_drewN | apply Kd.R_drew)); exact HO_11.out) hb); have n1_ := Aside0.mk (Kd.V_below (by (with_reducible repeat (first | apply Kd.V_alloc | apply Kd.V_drewN | apply Kd.V_drew)); exact HO_240000.out) hb); have n2_ := Aside0.mk (Kd.V_below (by (with_reducible repeat (first | apply Kd.V_alloc | apply Kd.V_drewN | apply Kd.V_drew)); exact HO_240001.out) hb); have n3_ := Aside0.mk (Kd.V_below (by (with_reducible repeat (first | apply Kd.V_alloc | apply Kd.V_drewN | apply Kd.V_drew)); exact HO245.out) hb); have n4_ := Aside0.mk (Kd.V_below (by (with_reducible repeat (first | apply Kd.V_alloc | apply Kd.V_drewN | apply Kd.V_drew)); exact HO248.out) hb); have n5_ := Aside0.mk (Kd.R_below (by (with_reducible repeat (first | apply Kd.R_alloc | apply Kd.R_drewN | apply Kd.R_drew)); exact HO254.out) hb); have n6_ := Aside0.mk (Kd.R_below (by (with_reducible repeat (first | apply Kd.R_alloc | apply Kd.R_drewN | apply Kd.R_drew)); exact HO257.out) hb); have n7_ := Aside0.mk (Kd.R_below (by (with_reducible repeat (first | apply Kd.R_alloc | apply Kd.R_drewN | apply Kd.R_drew)); exact HO261.out) hb); have n8_ := Aside0.mk (Kd.R_below (by (with_reducible repeat (first | apply Kd.R_alloc | apply Kd.R_drewN | apply Kd.R_drew)); exact HO265.out) hb); have n9_ := Aside0.mk (Kd.R_below (by (with_reducible repeat (first | apply Kd.R_alloc | apply Kd.R_drewN | apply Kd.R_drew)); exact HO268.out) hb); have n10_ := Aside0.mk (Kd.R_below (by (with_reducible repeat (first | apply Kd.R_alloc | apply Kd.R_drewN | apply Kd.R_drew)); exact HO272.out) hb); have n11_ := Aside0.mk (Kd.R_below (by (with_reducible repeat (first | apply Kd.R_alloc | apply Kd.R_drewN | apply Kd.R_drew)); exact HO278.out) hb); have n12_ := Aside0.mk (Kd.R_below (by (with_reducible repeat (first | apply Kd.R_alloc | apply Kd.R_drewN | apply Kd.R_drew)); exact HO281.out) hb); have n13_ := Aside0.mk (blk_below (g := gb227) (o := .cells #[.slice A0_0 l0_0.length c0_0, .slice A0_1 l0_1.length c0_1, .bool a0_2, .slice A0_3 l0_3.length c0_3, .int .i64 a0_4, .string a0_5] 45 (0, 0)) (by (with_reducible repeat (first | refine blk_drewN ?_ _ | refine blk_drew ?_ | refine blk_alloc ?_ _)); exact BK227.out) hb); have n14_ := Aside0.mk (blk_below (g := gb228) (o := .cells #[.slice A0_0 l0_0.length c0_0, .slice A0_1 l0_1.length c0_1, .bool a0_2] 25 (0, 0)) (by (with_reducible repeat (first | refine blk_drewN ?_ _ | refine blk_drew ?_ | refine blk_alloc ?_ _)); exact BK228.out) hb); have n15_ := Aside0.mk (blk_below (g := gb239) (o := .cells #[.slice Ao23 t231.length co23, .slice Ao27 t234.length co27, .bool t237] 25 (0, 0)) (by (with_reducible repeat (first | refine blk_drewN ?_ _ | refine blk_drew ?_ | refine blk_alloc ?_ _)); exact BK239.out) hb); have n16_ := Aside0.mk (blk_below (g := gb251) (o := .cells #[.slice Ao56 t243.length co56, .slice Ao61 t246.length co61, .bool t249] 25 (0, 0)) (by (with_reducible repeat (first | refine blk_drewN ?_ _ | refine blk_drew ?_ | refine blk_alloc ?_ _)); exact BK251.out) hb); have n17_ := Aside0.mk (below_step (by repeat (first | (with_reducible first | exact HB.out | apply below_alloc | apply pw_below_drewN | apply below_drew1 | refine below_set ?_ GE227.out | refine below_set ?_ GE228.out | refine below_set ?_ GE239.out | refine below_set ?_ GE251.out) | exact HB.out)) hb); clear HO_11; clear HO_240000; clear HO_240001; clear HO245; clear HO248; clear HO254; clear HO257; clear HO261; clear HO265; clear HO268; clear HO272; clear HO278; clear HO281; clear BK227; clear BK228; clear BK239; clear BK251; clear HB; have HO_11 := n0_; have HO_240000 := n1_; have HO_240001 := n2_; have HO245 := n3_; have HO248 := n4_; have HO254 := n5_; have HO257 := n6_; have HO261 := n7_; have HO265 := n8_; have HO268 := n9_; have HO272 := n10_; have HO278 := n11_; have HO281 := n12_; have BK227 := n13_; have BK228 := n14_; have BK239 := n15_; have BK251 := n16_; have HB := n17_; clear n0_ n1_ n2_ n3_ n4_ n5_ n6_ n7_ n8_ n9_ n10_ n11_ n12_ n13_ n14_ n15_ n16_ n17_; (try clear hb); (try clear hb2); (try clear hk); (try clear hi)))
                          go_ret
                          exact ⟨by first | rfl | (simp [errW_none, errW_some] <;> rfl) | (simp [*, errW_none, errW_some] <;> rfl), by repeat (first | (with_reducible first | exact HB.out | apply below_alloc | apply pw_below_drewN | apply below_drew1 | refine below_set ?_ GE227.out | refine below_set ?_ GE228.out | refine below_set ?_ GE239.out | refine below_set ?_ GE251.out) | exact HB.out)⟩
                        · replace c48 := Bool.eq_false_iff.mpr c48
                          subst c48
                          have H1 : (none) = some r := by rw [if_neg (show ¬ (false = true) by decide)] at H; exact H
                          clear H
                          have H := H1
                          clear H1
                          exact absurd H (by simp)
                      · replace c46 := Bool.eq_false_iff.mpr c46
                        subst c46
                        have H1 : (none) = some r := by rw [if_neg (show ¬ (false = true) by decide)] at H; exact H
                        clear H
                        have H := H1
                        clear H1
                        exact absurd H (by simp)
                    · replace c44 := Bool.eq_false_iff.mpr c44
                      subst c44
                      have H1 : (none) = some r := by rw [if_neg (show ¬ (false = true) by decide)] at H; exact H
                      clear H
                      have H := H1
                      clear H1
                      exact absurd H (by simp)
                  · rw [if_neg c43] at H
                    exact absurd H (by simp)
                · replace c42 := Bool.eq_false_iff.mpr c42
                  subst c42
                  have H1 : (none) = some r := by rw [if_neg (show ¬ (false = true) by decide)] at H; exact H
                  clear H
                  have H := H1
                  clear H1
                  exact absurd H (by simp)
              · replace c38 := Bool.eq_false_iff.mpr c38
                subst c38
                have H1 : (none) = some r := by rw [if_neg (show ¬ (false = true) by decide)] at H; exact H
                clear H
                have H := H1
                clear H1
                exact absurd H (by simp)

end Go.Proofs.Ytoknncbdfdgfjaa.Q
