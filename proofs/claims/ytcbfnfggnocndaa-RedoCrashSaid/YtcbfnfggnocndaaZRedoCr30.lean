import Derived.Test.YtcbfnfggnocndaaZRedoCr28
import Derived.Test.YtcbfnfggnocndaaZRedoCr29
import Derived.Test.YtcbfnfggnocndaaZRedoCr23
import Derived.Test.YtcbfnfggnocndaaZRedoCr22
import Derived.Test.YtcbfnfggnocndaaZRedoCrA
set_option linter.unusedVariables false
set_option linter.unusedSimpArgs false
section
namespace Go.Proofs.Ytcbfnfggnocndaa.X
open Go.RowKit Go.Proofs.YtcbfnfggnocndaaW.PrintWords Go.Proofs.YtcbfnfggnocndaaW.PrintLast Go.Proofs.YtcbfnfggnocndaaW.PrintMore
open Go.Proofs.Ytcbfnfggnocndaa.Q
attribute [local go_sem] max2_int min2_int max_two min_two max_three min_three max_four min_four   -- for this text's walks alone
attribute [local go_sem high] Go.Proofs.Ytcbfnfggnocndaa.px_xor_u8 Go.Proofs.Ytcbfnfggnocndaa.px_xor_u16 Go.Proofs.Ytcbfnfggnocndaa.px_xor_u32 Go.Proofs.Ytcbfnfggnocndaa.px_xor_u64
def copyholdref04_Image.l0 : Nat → List ByteArray → Int → List ByteArray → List (S88) → Bool → Option (List ByteArray)
 | 0, _, _, _, _, _ => none
 | k + 1, x3, x4, x122000, x122001, x122002 => if x4 < (x122001.length : Int) then (if 0 ≤ x4 then (if 0 ≤ ((rd_T88 x122001 x4).f0) then (if ((rd_T88 x122001 x4).f0) < (x3.length : Int) then (copyholdref04_Image.l0 k (x3.set (((rd_T88 x122001 x4).f0) : Int).toNat ((rd_T88 x122001 x4).f1)) (wrap64 (x4 + 1)) x122000 x122001 x122002) else (none)) else (none)) else (none)) else (some x3)
def copyholdref04_Image.f (k : Nat) (l0_0 : List ByteArray) (l0_1 : List (S88)) (a0_2 : Bool) : Option (List ByteArray) := (some (([] : List ByteArray) : List ByteArray)).bind fun y122 => (if y122.length + l0_0.length < 8796093022208 then (copyholdref04_Image.l0 k (y122 ++ l0_0) 0 l0_0 l0_1 a0_2) else (none))
theorem copyholdref04_Image.mono_l : ∀ k, (∀ y0 y1 y2 y3 y4, LeO (copyholdref04_Image.l0 k y0 y1 y2 y3 y4) (copyholdref04_Image.l0 (k + 1) y0 y1 y2 y3 y4))
 | 0 => fun _ _ _ _ _ r h => by simp [copyholdref04_Image.l0] at h
 | k + 1 => by
  have ih0 := copyholdref04_Image.mono_l k
  ·intro y0 y1 y2 y3 y4
   unfold copyholdref04_Image.l0
   repeat' first
   | (with_reducible exact ih0 _ _ _ _ _)
   | (with_reducible exact LeO.refl _)
   | (with_reducible exact LeO.none _)
   | (with_reducible refine LeO.ite ?_ ?_)
   | (with_reducible refine LeO.bind ?_ (fun _ => ?_))
   | exact ih0 _ _ _ _ _
   | exact LeO.none _
   | refine LeO.ite ?_ ?_
   | refine LeO.bind ?_ (fun _ => ?_)
theorem copyholdref04_Image.mono : ∀ a0 a1 a2 k, LeO (copyholdref04_Image.f k a0 a1 a2) (copyholdref04_Image.f (k + 1) a0 a1 a2) := by
 intro a0 a1 a2 k
 have ih0 := copyholdref04_Image.mono_l k
 unfold copyholdref04_Image.f
 repeat' first
   | (with_reducible exact ih0 _ _ _ _ _)
   | (with_reducible exact LeO.refl _)
   | (with_reducible exact LeO.none _)
   | (with_reducible refine LeO.ite ?_ ?_)
   | (with_reducible refine LeO.bind ?_ (fun _ => ?_))
   | exact ih0 _ _ _ _ _
   | exact LeO.none _
   | refine LeO.ite ?_ ?_
   | refine LeO.bind ?_ (fun _ => ?_)
def copyholdref04_Image.T5 : Bool × List (List Nat × List Nat) := (true, [([], []), ([], []), ([1], [1]), ([], []), ([2, 3], [2, 3]), ([4], [4]), ([5], [5]), ([], []), ([7], [7]), ([], []), ([8, 9], [8, 9]), ([10], [10]), ([11], [11]), ([0, 6, 0, 1, 2, 3, 4, 5, 6, 7, 8, 9, 10, 11, 12], [0, 6]), ([13, 12, 0, 1, 2, 3, 4, 5, 6, 7, 8, 9, 10, 11, 12], [12, 13])])
def copyholdref04_Image.B5 : List Nat := [0, 0, 2, 0, 14, 30, 62, 0, 128, 0, 896, 1920, 3968, 8191, 16383]
theorem copyholdref04_Image.tab5 : rtab .any (opsOf Try.f44 5) = copyholdref04_Image.T5 := by kernel_rfl
theorem copyholdref04_Image.bits5 : waitsOk copyholdref04_Image.T5.2 copyholdref04_Image.B5 = true := by kernel_rfl
set_option maxHeartbeats 8000000 in
set_option maxRecDepth 100000 in
theorem copyholdref04_Image.calls (k : Nat) (A0_0 : Option Addr) (c0_0 : Nat) (l0_0 : List ByteArray) (A0_1 : Option Addr) (c0_1 : Nat) (l0_1 : List (S88)) (a0_2 : Bool) (r : List ByteArray) (w : World) (hr0_0 : Kd.C Kd.string w A0_0 l0_0.length l0_0) (hc0_0 : l0_0.length ≤ c0_0) (hr0_1 : Kd.C k88 w A0_1 l0_1.length l0_1) (hc0_1 : l0_1.length ≤ c0_1) (h : copyholdref04_Image.f k l0_0 l0_1 a0_2 = some r) :
  Calls Try.prog 44 #[.agg #[.slice A0_0 l0_0.length c0_0, .slice A0_1 l0_1.length c0_1, .bool a0_2]] w fun e w' => ∃ v0_ : Value, e = .returned (v0_) ∧ Kd.R Kd.string 9 w' w.heap.size (fun _ => True) v0_ r ∧ Below w.heap.size w w' := by
 have hu25 := Try.underlying25
 have HR0_0 := zqj hr0_0
 have HC0_0 := zqj hc0_0
 clear hr0_0 hc0_0
 have HR0_1 := zqj hr0_1
 have HC0_1 := zqj hc0_1
 clear hr0_1 hc0_1
 have HB := zqj (Below.refl w.heap.size w)
 have H : ((some (([] : List ByteArray) : List ByteArray)).bind fun y122 => (if y122.length + l0_0.length < 8796093022208 then (copyholdref04_Image.l0 k (y122 ++ l0_0) 0 l0_0 l0_1 a0_2) else (none))) = some r := h
 clear h
 obtain ⟨y122, hy122⟩ : ∃ y_ : List ByteArray, y_ = (([] : List ByteArray)) := ⟨_, rfl⟩
 replace H : (if y122.length + l0_0.length < 8796093022208 then (copyholdref04_Image.l0 k (y122 ++ l0_0) 0 l0_0 l0_1 a0_2) else (none)) = some r := by first | (rw [hy122]; with_reducible exact H) | (have H2_ := (Option.bind_some _ _).symm.trans H; rw [hy122]; with_reducible exact H2_) | (have H2_ := (Option.bind_some _ _).symm.trans H; with_reducible exact H2_) | with_reducible exact H | (rw [hy122]; exact H) | exact H
 have Ny122 := zqj hy122
 clear hy122
 by_cases c2 : y122.length + l0_0.length < 8796093022208
 ·rw [if_pos c2] at H
  have LMc2 := zqj c2
  clear c2
  obtain ⟨y125, hy125⟩ : ∃ y_ : List ByteArray, y_ = (y122 ++ l0_0) := ⟨_, rfl⟩
  replace H : (copyholdref04_Image.l0 k y125 0 l0_0 l0_1 a0_2) = some r := by first | (rw [hy125]; with_reducible exact H) | (have H2_ := (Option.bind_some _ _).symm.trans H; rw [hy125]; with_reducible exact H2_) | (have H2_ := (Option.bind_some _ _).symm.trans H; with_reducible exact H2_) | with_reducible exact H | (rw [hy125]; exact H) | exact H
  have Ny125 := zqj hy125
  clear hy125
  have H' := zqj H
  clear H
  go_enter Try.func44, Try.ntmps44
  go_wp2_with (first | ((with_reducible refine gate_dst (N := 1) rfl ?_); refine box_event ?hg (N := 1) ?hd (cs := #[.slice A0_0 l0_0.length c0_0, .slice A0_1 l0_1.length c0_1, .bool a0_2]) (t := 25) ?hr ?_; (case hd => rfl); (case hg => rfl); (case hr => first | (go_simp; done) | (go_simp; rfl)); intro gb121 hg w3 hbox hb; have n0_ := zqj (below_step (by repeat (first | (with_reducible first | exact HB.out | apply zqg | apply zqe | apply zqf) | exact HB.out)) hb); have n1_ := zqj (hbox); have n2_ := zqj ((by rw [hg]; exact (below_size (by repeat (first | (with_reducible first | exact HB.out | apply zqg | apply zqe | apply zqf) | exact HB.out))) : w.heap.size ≤ gb121)); have n3_ := zqj ((by rw [hg]; exact (below_size (by repeat (first | (with_reducible first | exact HB.out | apply zqg | apply zqe | apply zqf) | exact HB.out))) : w.heap.size ≤ gb121)); clear HB; have HB := n0_; have BK121 := n1_; have GW121 := n2_; have GE121 := n3_; clear n0_ n1_ n2_ n3_; clear hb hbox hg) | ((with_reducible refine gate_dst (N := 5) rfl ?_); refine Kd.R_lit Kd.string _ 9 ?hg (N := 5) ?hd (xs := ([] : List ByteArray)) (inner := []) (ok := fun _ => True) (okp := fun _ => True) ?hr ?hp (fun _ hk => hk) trivial (Below.refl _ _) (Nat.le_refl _) (by simp) ?_; (case hd => rfl); (case hg => rfl); (case hr => first | (go_simp; done) | (go_simp; rfl)); (case hp => exact (Reps.none _ _)); intro v123 w4 ho5 hb hg_ hnew_; clear hg_ hnew_; (first | rw [← Ny122.out] at ho5 | (simp only [Int.reduceToNat] at ho5; rw [← Ny122.out] at ho5)); have n0_ := zqj (Kd.R_lower ho5 (below_size (by repeat (first | (with_reducible first | exact HB.out | apply zqg | apply zqe | apply zqf | refine zqd ?_ GE121.out) | exact HB.out)))); have n1_ := zqj (blk_below (g := gb121) (o := .cells #[.slice A0_0 l0_0.length c0_0, .slice A0_1 l0_1.length c0_1, .bool a0_2] 25 (0, 0)) (by (with_reducible repeat (first | refine zqa ?_ _ | refine zqb ?_ | refine zqc ?_ _)); exact BK121.out) hb); have n2_ := zqj (below_step (by repeat (first | (with_reducible first | exact HB.out | apply zqg | apply zqe | apply zqf | refine zqd ?_ GE121.out) | exact HB.out)) hb); clear BK121; clear HB; have HO124 := n0_; have BK121 := n1_; have HB := n2_; clear n0_ n1_ n2_; clear hb ho5; have hcz6_0 : w4.cell? ⟨gb121, 0, none⟩ = some (.slice A0_0 l0_0.length c0_0) := (blk_cell BK121.out 0).trans rfl; have hcz6_1 : w4.cell? ⟨gb121, 1, none⟩ = some (.slice A0_1 l0_1.length c0_1) := (blk_cell BK121.out 1).trans rfl; have hcz6_2 : w4.cell? ⟨gb121, 2, none⟩ = some (.bool a0_2) := (blk_cell BK121.out 2).trans rfl; have hfz6_0 := zqi BK121.out 0; have hfz6_1 := zqi BK121.out 1; have hfz6_2 := zqi BK121.out 2) | ((with_reducible refine gate_builtin (b := .append) (xs := #[.tmp 5, .tmp 7]) rfl ?_); at_builtin; refine Kd.R_append_rows Kd.string (w0 := w) w.heap.size rfl (.tmp 5) (.tmp 7) 22 9 (.string ⟨#[]⟩) 16 rfl Try.underlying22 info9 rfl (by decide) (by omega) v123 y122 l0_0 _ _ _ (fun _ => True) (fun _ => False) rfl rfl ?aO ?aR (fun _ _ h => h) (fun _ h => h.elim) ?aF ?aB ?aS ?aL ?_; (case aR => repeat (first | exact (Kd.C_below HR0_0.out HB.out) | (with_reducible refine Kd.C_alloc ?_ _) | (with_reducible refine Kd.C_drewN ?_ _) | (with_reducible refine Kd.C_drew ?_))); (case aB => exact (by repeat (first | (with_reducible first | exact HB.out | apply zqg | apply zqe | apply zqf | refine zqd ?_ GE121.out) | exact HB.out))); (case aF => exact (fun _ _ => trivial)); (case aO => exact (by (with_reducible repeat (first | apply Kd.R_alloc | apply Kd.R_drewN | apply Kd.R_drew)); exact HO124.out)); (case aS => exact (below_size (by repeat (first | (with_reducible first | exact HB.out | apply zqg | apply zqe | apply zqf | refine zqd ?_ GE121.out) | exact HB.out)))); (case aL => have := LMc2.out; omega); intro v126 w7 ho hb hg hat; rw [← Ny125.out] at ho; have n0_ := zqj (blk_grown (g := gb121) (o := .cells #[.slice A0_0 l0_0.length c0_0, .slice A0_1 l0_1.length c0_1, .bool a0_2] 25 (0, 0)) (by (with_reducible repeat (first | refine zqa ?_ _ | refine zqb ?_ | refine zqc ?_ _)); exact BK121.out) hg (Kd.R_ne HO124.out BK121.out (by decide))); have n1_ := zqj (hb); have n2_ := zqj (ho); clear BK121; clear HB; clear HO124; have BK121 := n0_; have HB := n1_; have HO127 := n2_; clear n0_ n1_ n2_; clear ho hb hg hat))
  go_loopg [4] k (fun kq v4 w' => ∃ (x3_1 : List ByteArray) (x4_1 : Int), v4 = .int .i64 x4_1 ∧ Aside0 (copyholdref04_Image.l0 kq x3_1 x4_1 l0_0 l0_1 a0_2 = some r) ∧ Aside0 (kq ≤ k) ∧ Aside0 (Kd.R Kd.string 9 w' w.heap.size (fun _ => True) v126 x3_1) ∧ Aside0 (w'.heap[gb121]? = some (.cells #[(.slice A0_0 l0_0.length c0_0), (.slice A0_1 l0_1.length c0_1), .bool a0_2] 25 (0, 0))) ∧ Aside0 (Below w.heap.size w w'))
  case atStart => exact ⟨(y125), (0), (by first | rfl | (simp; done) | (simp [*]; done)), H', ⟨Nat.le_refl _⟩, ⟨by (with_reducible repeat (first | apply Kd.R_alloc | apply Kd.R_drewN | apply Kd.R_drew)); exact HO127.out⟩, ⟨by (with_reducible repeat (first | refine zqa ?_ _ | refine zqb ?_ | refine zqc ?_ _)); exact BK121.out⟩, ⟨by repeat (first | (with_reducible first | exact HB.out | apply zqg | apply zqe | apply zqf | refine zqd ?_ GE121.out) | exact HB.out)⟩⟩
  case round =>
   clear H'
   ((try clear c2); (try clear p2); (try clear c4); (try clear hcz6_0); (try clear hcz6_1); (try clear hcz6_2); (try clear hfz6_0); (try clear hfz6_1); (try clear hfz6_2))
   obtain ⟨x3_1, x4_1, rfl, HA, HK1, HO_3, BK121, HB⟩ := hrel
   cases gk with
   | zero => exact absurd HA.out (by simp [copyholdref04_Image.l0])
   | succ k1 =>
    (have H := HA.out; clear HA)
    simp only [copyholdref04_Image.l0] at H
    by_cases c8 : x4_1 < (l0_1.length : Int)
    ·rw [if_pos c8] at H
     have c8b0 : decide (x4_1 < (l0_1.length : Int)) = true := decide_eq_true c8
     clear c8
     by_cases c9 : 0 ≤ x4_1
     ·rw [if_pos c9] at H
      have c9b0 : decide (0 ≤ x4_1) = true := decide_eq_true c9
      clear c9
      by_cases c10 : 0 ≤ ((rd_T88 l0_1 x4_1).f0)
      ·rw [if_pos c10] at H
       have c10b0 : decide (0 ≤ ((rd_T88 l0_1 x4_1).f0)) = true := decide_eq_true c10
       clear c10
       by_cases c11 : ((rd_T88 l0_1 x4_1).f0) < (x3_1.length : Int)
       ·rw [if_pos c11] at H
        have c11b0 : decide (((rd_T88 l0_1 x4_1).f0) < (x3_1.length : Int)) = true := decide_eq_true c11
        clear c11
        obtain ⟨y130, hy130⟩ : ∃ y_ : List ByteArray, y_ = (x3_1.set (((rd_T88 l0_1 x4_1).f0) : Int).toNat ((rd_T88 l0_1 x4_1).f1)) := ⟨_, rfl⟩
        replace H : (copyholdref04_Image.l0 k1 y130 (wrap64 (x4_1 + 1)) l0_0 l0_1 a0_2) = some r := by first | (rw [hy130]; with_reducible exact H) | (have H2_ := (Option.bind_some _ _).symm.trans H; rw [hy130]; with_reducible exact H2_) | (have H2_ := (Option.bind_some _ _).symm.trans H; with_reducible exact H2_) | with_reducible exact H | (rw [hy130]; exact H) | exact H
        have Ny130 := zqj hy130
        clear hy130
        have H' := zqj H
        clear H
        have hcz13_0 : wr.cell? ⟨gb121, 0, none⟩ = some (.slice A0_0 l0_0.length c0_0) := (blk_cell BK121.out 0).trans rfl
        have hcz13_1 : wr.cell? ⟨gb121, 1, none⟩ = some (.slice A0_1 l0_1.length c0_1) := (blk_cell BK121.out 1).trans rfl
        have hcz13_2 : wr.cell? ⟨gb121, 2, none⟩ = some (.bool a0_2) := (blk_cell BK121.out 2).trans rfl
        (have hfz13_0 := zqi BK121.out 0; have hfz13_1 := zqi BK121.out 1; have hfz13_2 := zqi BK121.out 2)
        try go_wp2
        have n0_ := zqj (Kd.R_drew HO_3.out)
        have n1_ := zqj (zqb BK121.out)
        have n2_ := zqj (zqf HB.out)
        (clear HO_3; clear BK121; clear HB; have HO_3 := n0_; have BK121 := n1_; have HB := n2_; clear n0_ n1_ n2_)
        have p128 : 0 ≤ (x4_1 : Int) := zqh (by first | (with_reducible assumption) | assumption)
        have q128 : x4_1 < (l0_1.length : Int) := zqh (by first | (with_reducible assumption) | assumption)
        obtain ⟨ad128, e128, hx128_0, hx128_1⟩ := at_T88 HR0_1.out x4_1 p128 q128
        have hw128_1 := hx128_1
        have hw128_0 := hx128_0
        cases e128
        replace hx128_0 := (HB.out.cell (World.block_lt_of_cell? w _ hx128_0)).trans hx128_0
        replace hx128_1 := (HB.out.cell (World.block_lt_of_cell? w _ hx128_1)).trans hx128_1
        replace p128 := eq_true p128
        replace q128 := eq_true q128
        have p129 : 0 ≤ (x4_1 : Int) := zqh (by first | (with_reducible assumption) | assumption)
        have q129 : x4_1 < (l0_1.length : Int) := zqh (by first | (with_reducible assumption) | assumption)
        obtain ⟨ad129, e129, hx129_0, hx129_1⟩ := at_T88 HR0_1.out x4_1 p129 q129
        have hw129_1 := hx129_1
        have hw129_0 := hx129_0
        obtain rfl : ad128 = ad129 := (by injection e129)
        replace hx129_0 := (HB.out.cell (World.block_lt_of_cell? w _ hx129_0)).trans hx129_0
        replace hx129_1 := (HB.out.cell (World.block_lt_of_cell? w _ hx129_1)).trans hx129_1
        replace p129 := eq_true p129
        replace q129 := eq_true q129
        have p12 : 0 ≤ (((rd_T88 l0_1 x4_1).f0) : Int) := zqh (by first | (with_reducible assumption) | assumption)
        have q12 : (((rd_T88 l0_1 x4_1).f0) : Int) < ((x3_1.length : Int) : Int) := zqh (by first | (with_reducible assumption) | assumption)
        obtain ⟨go12, co12, eo12, gb12, gl12, cl12, HG12⟩ := Kd.R_form HO_3.out (by omega)
        (first | cases eo12 | (injection eo12 with ea_ en_ ec_; (first | subst ea_ | (injection ea_ with ea_; subst ea_)); subst ec_; clear en_))
        have GB12 := zqj gb12
        have GG12 := zqj HG12
        clear gb12 gl12 HG12
        obtain ⟨hx12_0, hf12_0⟩ := Kd.R_celln (⟨#[]⟩ : ByteArray) HO_3.out (((rd_T88 l0_1 x4_1).f0) : Int) p12 q12
        replace p12 := eq_true p12
        replace q12 := eq_true q12
        have HP15 := Kd.R_putn HO_3.out (((rd_T88 l0_1 x4_1).f0) : Int) ((rd_T88 l0_1 x4_1).f1)
        rw [← Ny130.out] at HP15
        have HQ15 := zqj HP15
        clear HP15
        refine start_ (n := 15) (S := fun w' => w'.cell? ⟨gb121, 0, none⟩ = some (.slice A0_0 l0_0.length c0_0) ∧ w'.cell? ⟨gb121, 1, none⟩ = some (.slice (some ad128) l0_1.length c0_1) ∧ w'.cell? ⟨gb121, 2, none⟩ = some (.bool a0_2) ∧ w'.cell? (ad128.add ((x4_1).toNat * 2)) = some (.int .i64 ((rd_T88 l0_1 x4_1).f0)) ∧ w'.cell? ⟨(ad128.add ((x4_1).toNat * 2)).block, (ad128.add ((x4_1).toNat * 2)).off + 1, none⟩ = some (.string ((rd_T88 l0_1 x4_1).f1)) ∧ w'.cell? (ad128.add ((x4_1).toNat * 2)) = some (.int .i64 ((rd_T88 l0_1 x4_1).f0)) ∧ w'.cell? ⟨(ad128.add ((x4_1).toNat * 2)).block, (ad128.add ((x4_1).toNat * 2)).off + 1, none⟩ = some (.string ((rd_T88 l0_1 x4_1).f1))) (ds := [14]) #[false, false, false, false, false, false, false, false, false, false, false, false, false, false, false] (by kernel_rfl) rfl rfl ⟨(blk_cell BK121.out 0).trans rfl, (blk_cell BK121.out 1).trans rfl, (blk_cell BK121.out 2).trans rfl, ((HB.out.cell (World.block_lt_of_cell? w _ hw128_0)).trans hw128_0), ((HB.out.cell (World.block_lt_of_cell? w _ hw128_1)).trans hw128_1), ((HB.out.cell (World.block_lt_of_cell? w _ hw129_0)).trans hw129_0), ((HB.out.cell (World.block_lt_of_cell? w _ hw129_1)).trans hw129_1)⟩ (fun hHeld => ?_); refine with_tabW copyholdref04_Image.tab5 copyholdref04_Image.bits5 (fun HT_ HW_ => ?_)
        generalize wr.drew = w14 at HO_3 BK121 HB GG12 HQ15 hf12_0 hx128_0 hx128_1 hx129_0 hx129_1 hx12_0 hHeld ⊢
        refine pure_ (i := 0) (N := some 16) (v := ?_) (a' := ?_) #[true, false, false, false, false, false, false, false, false, false, false, false, false, false, false] rfl rfl (any_of HT_.out (by kernel_rfl)) (fun _ _ _ h => h) (Or.inl ⟨by rfl, ?_⟩) ?_ ?_
        (rotate_left; · (intro w'; go_simp; with_reducible rfl))
        (rotate_left; · (simp only [Act.put, zqk, zql, zqm, i64_w, i32_w]; rfl))
        refine pure_ (i := 1) (N := some 17) (v := ?_) (a' := ?_) #[true, true, false, false, false, false, false, false, false, false, false, false, false, false, false] rfl rfl (any_of HT_.out (by kernel_rfl)) (fun _ _ _ h => h) (Or.inl ⟨by rfl, ?_⟩) ?_ ?_
        (rotate_left; · (intro w'; go_simp; with_reducible rfl))
        (rotate_left; · (simp only [Act.put, zqk, zql, zqm, i64_w, i32_w]; rfl))
        refine pure_ (i := 3) (N := some 19) (v := ?_) (a' := ?_) #[true, true, false, true, false, false, false, false, false, false, false, false, false, false, false] rfl rfl (any_of HT_.out (by kernel_rfl)) (fun _ _ _ h => h) (Or.inl ⟨by rfl, ?_⟩) ?_ ?_
        (rotate_left; · (intro w'; go_simp; with_reducible rfl))
        (rotate_left; · (simp only [Act.put, zqk, zql, zqm, i64_w, i32_w]; rfl))
        refine pure_ (i := 7) (N := some 23) (v := ?_) (a' := ?_) #[true, true, false, true, false, false, false, true, false, false, false, false, false, false, false] rfl rfl (any_of HT_.out (by kernel_rfl)) (fun _ _ _ h => h) (Or.inl ⟨by rfl, ?_⟩) ?_ ?_
        (rotate_left; · (intro w'; go_simp; with_reducible rfl))
        (rotate_left; · (simp only [Act.put, zqk, zql, zqm, i64_w, i32_w]; rfl))
        refine pure_ (i := 9) (N := some 25) (v := ?_) (a' := ?_) #[true, true, false, true, false, false, false, true, false, true, false, false, false, false, false] rfl rfl (any_of HT_.out (by kernel_rfl)) (fun _ _ _ h => h) (Or.inl ⟨by rfl, ?_⟩) ?_ ?_
        (rotate_left; · (intro w'; go_simp; with_reducible rfl))
        (rotate_left; · (simp only [Act.put, zqk, zql, zqm, i64_w, i32_w]; rfl))
        refine take_ (i := 2) (N := some 18) (v := ?_) (a' := ?_) #[true, true, true, true, false, false, false, true, false, true, false, false, false, false, false] rfl rfl (take_ofW HT_.out HW_.out (by kernel_rfl)) (fun _ _ _ h => h) (Or.inl ⟨by rfl, ?_⟩) hHeld ?_ ?_
        rotate_left
        ·rintro w' ⟨s0, s1, s2, s3, s4, s5, s6⟩
         go_simp
         with_reducible rfl
        (rotate_left; · (simp only [Act.put, zqk, zql, zqm, i64_w, i32_w]; rfl))
        refine pure_ (i := 4) (N := some 20) (v := ?_) (a' := ?_) #[true, true, true, true, true, false, false, true, false, true, false, false, false, false, false] rfl rfl (any_of HT_.out (by kernel_rfl)) (fun _ _ _ h => h) (Or.inl ⟨by rfl, ?_⟩) ?_ ?_
        (rotate_left; · (intro w'; go_simp; with_reducible rfl))
        (rotate_left; · (simp only [Act.put, zqk, zql, zqm, i64_w, i32_w]; rfl))
        refine pure_ (i := 5) (N := some 21) (v := ?_) (a' := ?_) #[true, true, true, true, true, true, false, true, false, true, false, false, false, false, false] rfl rfl (any_of HT_.out (by kernel_rfl)) (fun _ _ _ h => h) (Or.inl ⟨by rfl, ?_⟩) ?_ ?_
        (rotate_left; · (intro w'; go_simp; with_reducible rfl))
        (rotate_left; · (simp only [Act.put, zqk, zql, zqm, i64_w, i32_w]; rfl))
        refine take_ (i := 6) (N := some 22) (v := ?_) (a' := ?_) #[true, true, true, true, true, true, true, true, false, true, false, false, false, false, false] rfl rfl (take_ofW HT_.out HW_.out (by kernel_rfl)) (fun _ _ _ h => h) (Or.inl ⟨by rfl, ?_⟩) hHeld ?_ ?_
        rotate_left
        ·rintro w' ⟨s0, s1, s2, s3, s4, s5, s6⟩
         go_simp
         with_reducible rfl
        (rotate_left; · (simp only [Act.put, zqk, zql, zqm, i64_w, i32_w]; rfl))
        refine take_ (i := 8) (N := some 24) (v := ?_) (a' := ?_) #[true, true, true, true, true, true, true, true, true, true, false, false, false, false, false] rfl rfl (take_ofW HT_.out HW_.out (by kernel_rfl)) (fun _ _ _ h => h) (Or.inl ⟨by rfl, ?_⟩) hHeld ?_ ?_
        rotate_left
        ·rintro w' ⟨s0, s1, s2, s3, s4, s5, s6⟩
         go_simp
         with_reducible rfl
        (rotate_left; · (simp only [Act.put, zqk, zql, zqm, i64_w, i32_w]; rfl))
        refine pure_ (i := 10) (N := some 26) (v := ?_) (a' := ?_) #[true, true, true, true, true, true, true, true, true, true, true, false, false, false, false] rfl rfl (any_of HT_.out (by kernel_rfl)) (fun _ _ _ h => h) (Or.inl ⟨by rfl, ?_⟩) ?_ ?_
        (rotate_left; · (intro w'; go_simp; with_reducible rfl))
        (rotate_left; · (simp only [Act.put, zqk, zql, zqm, i64_w, i32_w]; rfl))
        refine pure_ (i := 11) (N := some 27) (v := ?_) (a' := ?_) #[true, true, true, true, true, true, true, true, true, true, true, true, false, false, false] rfl rfl (any_of HT_.out (by kernel_rfl)) (fun _ _ _ h => h) (Or.inl ⟨by rfl, ?_⟩) ?_ ?_
        (rotate_left; · (intro w'; go_simp; with_reducible rfl))
        (rotate_left; · (simp only [Act.put, zqk, zql, zqm, i64_w, i32_w]; rfl))
        refine take_ (i := 12) (N := some 28) (v := ?_) (a' := ?_) #[true, true, true, true, true, true, true, true, true, true, true, true, true, false, false] rfl rfl (take_ofW HT_.out HW_.out (by kernel_rfl)) (fun _ _ _ h => h) (Or.inl ⟨by rfl, ?_⟩) hHeld ?_ ?_
        rotate_left
        ·rintro w' ⟨s0, s1, s2, s3, s4, s5, s6⟩
         go_simp
         with_reducible rfl
        (rotate_left; · (simp only [Act.put, zqk, zql, zqm, i64_w, i32_w]; rfl))
        refine pure_ (i := 13) (N := some 29) (v := ?_) (a' := ?_) #[true, true, true, true, true, true, true, true, true, true, true, true, true, true, false] rfl rfl (any_of HT_.out (by kernel_rfl)) (fun _ _ _ h => h) (Or.inl ⟨by rfl, ?_⟩) ?_ ?_
        (rotate_left; · (intro w'; go_simp; with_reducible rfl))
        (rotate_left; · (simp only [Act.put, zqk, zql, zqm, i64_w, i32_w]; rfl))
        refine last_ (i := 14) (N := none) #[true, true, true, true, true, true, true, true, true, true, true, true, true, true, true] rfl rfl (one_of HT_.out (by kernel_rfl)) (by decide) (fun K hK => ?_)
        refine skip_ (w1 := ?_) (by rfl) rfl ?_ ?_
        rotate_left
        ·go_simp
         rfl
        refine hK.out _ _ ?_
        clear hK K
        refine done_ (done_of HT_.out (by kernel_rfl)) ?_
        try go_wp2
        go_roundg k1
        case measure => have := HK1.out; omega
        case rel => exact ⟨(y130), (wrap64 (x4_1 + 1)), (by first | rfl | (simp; done) | (simp [*]; done)), H', ⟨by have := HK1.out; omega⟩, ⟨by (with_reducible repeat (first | apply Kd.R_alloc | apply Kd.R_drewN | apply Kd.R_drew)); exact HQ15.out⟩, ⟨by (with_reducible repeat (first | refine zqa ?_ _ | refine zqb ?_ | refine zqc ?_ _)); refine blk_far ?_ (by have h_ := Kd.R_ne HO_3.out BK121.out (by decide); intro e_; exact h_ (by rw [e_]; rfl)) _; (with_reducible repeat (first | refine zqa ?_ _ | refine zqb ?_ | refine zqc ?_ _)); exact BK121.out⟩, ⟨by repeat (first | (with_reducible first | exact HB.out | apply zqg | apply zqe | apply zqf | refine zqd ?_ GB12.out | refine zqd ?_ GE121.out) | exact HB.out)⟩⟩
       ·rw [if_neg c11] at H
        exact absurd H (by simp)
      ·rw [if_neg c10] at H
       exact absurd H (by simp)
     ·rw [if_neg c9] at H
      exact absurd H (by simp)
    ·rw [if_neg c8] at H
     have c8b0 : decide (x4_1 < (l0_1.length : Int)) = false := decide_eq_false c8
     clear c8
     obtain rfl := Option.some.inj H
     have hcz16_0 : wr.cell? ⟨gb121, 0, none⟩ = some (.slice A0_0 l0_0.length c0_0) := (blk_cell BK121.out 0).trans rfl
     have hcz16_1 : wr.cell? ⟨gb121, 1, none⟩ = some (.slice A0_1 l0_1.length c0_1) := (blk_cell BK121.out 1).trans rfl
     have hcz16_2 : wr.cell? ⟨gb121, 2, none⟩ = some (.bool a0_2) := (blk_cell BK121.out 2).trans rfl
     (have hfz16_0 := zqi BK121.out 0; have hfz16_1 := zqi BK121.out 1; have hfz16_2 := zqi BK121.out 2)
     go_wp2
     go_ret
     exact ⟨_, by first | rfl | (simp [errW_none, errW_some] <;> rfl) | (simp [*, errW_none, errW_some] <;> rfl), by (with_reducible repeat (first | apply Kd.R_alloc | apply Kd.R_drewN | apply Kd.R_drew)); exact HO_3.out, by repeat (first | (with_reducible first | exact HB.out | apply zqg | apply zqe | apply zqf | refine zqd ?_ GE121.out) | exact HB.out)⟩
 ·rw [if_neg c2] at H
  exact absurd H (by simp)
mutual
def copyholdref01_TakeNum.l0 : Nat → ByteArray → Int → Option (Int × ByteArray × Int)
 | 0, _, _ => none
 | k + 1, x0, x5 => if x5 < (x0.size : Int) then (if 0 ≤ x5 then (copyholdref01_TakeNum.j1 k x0 x5 (decide ((bt x0 x5) ≥ 128))) else (none)) else (copyholdref01_TakeNum.j1 k x0 x5 false)
def copyholdref01_TakeNum.j1 : Nat → ByteArray → Int → Bool → Option (Int × ByteArray × Int)
 | 0, _, _, _ => none
 | k + 1, x0, x5, x17 => if x17 = true then (if (wrap64 (x5 + 1)) = 10 then (some (0, (⟨#[]⟩ : ByteArray), 3)) else (copyholdref01_TakeNum.l0 k x0 (wrap64 (x5 + 1)))) else (if x5 = (x0.size : Int) then (some (0, (⟨#[]⟩ : ByteArray), 2)) else (copyholdref01_TakeNum.l1 k x0 x5 0 x5))
def copyholdref01_TakeNum.l1 : Nat → ByteArray → Int → Int → Int → Option (Int × ByteArray × Int)
 | 0, _, _, _, _ => none
 | k + 1, x0, x5, x6, x7 => if x7 ≥ 0 then (if 0 ≤ x7 then (if x7 < (x0.size : Int) then (copyholdref01_TakeNum.l1 k x0 x5 (IntKind.u64.wrap ((IntKind.u64.wrap (128 * x6)) + (IntKind.u64.wrap (Int.tmod (bt x0 x7) 128)))) (wrap64 (x7 - 1))) else (none)) else (none)) else ((copyholdref01_Num.f k x6).bind fun t131 => (if 0 ≤ (wrap64 (x5 + 1)) then (if (wrap64 (x5 + 1)) ≤ (x0.size : Int) then (if t131.toList = (x0.extract 0 ((wrap64 (x5 + 1)) : Int).toNat).toList then (some (x6, x0.extract ((wrap64 (x5 + 1)) : Int).toNat x0.size, 0)) else (some (0, (⟨#[]⟩ : ByteArray), 3))) else (none)) else (none)))
end
def copyholdref01_TakeNum.f (k : Nat) (a0 : ByteArray) : Option (Int × ByteArray × Int) := copyholdref01_TakeNum.l0 k a0 0
theorem copyholdref01_TakeNum.mono_l : ∀ k, (∀ y0 y1, LeO (copyholdref01_TakeNum.l0 k y0 y1) (copyholdref01_TakeNum.l0 (k + 1) y0 y1)) ∧ (∀ y0 y1 y2, LeO (copyholdref01_TakeNum.j1 k y0 y1 y2) (copyholdref01_TakeNum.j1 (k + 1) y0 y1 y2)) ∧ (∀ y0 y1 y2 y3, LeO (copyholdref01_TakeNum.l1 k y0 y1 y2 y3) (copyholdref01_TakeNum.l1 (k + 1) y0 y1 y2 y3))
 | 0 => ⟨fun _ _ r h => by simp [copyholdref01_TakeNum.l0] at h, fun _ _ _ r h => by simp [copyholdref01_TakeNum.j1] at h, fun _ _ _ _ r h => by simp [copyholdref01_TakeNum.l1] at h⟩
 | k + 1 => by
  obtain ⟨ih0, ih1, ih2⟩ := copyholdref01_TakeNum.mono_l k
  refine ⟨?_, ?_, ?_⟩
  ·intro y0 y1
   unfold copyholdref01_TakeNum.l0
   repeat' first
   | (with_reducible exact ih0 _ _)
   | (with_reducible exact ih1 _ _ _)
   | (with_reducible exact ih2 _ _ _ _)
   | (with_reducible exact copyholdref01_Num.mono _ _)
   | (with_reducible exact LeO.refl _)
   | (with_reducible exact LeO.none _)
   | (with_reducible refine LeO.ite ?_ ?_)
   | (with_reducible refine LeO.bind ?_ (fun _ => ?_))
   | exact ih0 _ _
   | exact ih1 _ _ _
   | exact ih2 _ _ _ _
   | exact copyholdref01_Num.mono _ _
   | exact LeO.none _
   | refine LeO.ite ?_ ?_
   | refine LeO.bind ?_ (fun _ => ?_)
  ·intro y0 y1 y2
   unfold copyholdref01_TakeNum.j1
   repeat' first
   | (with_reducible exact ih0 _ _)
   | (with_reducible exact ih1 _ _ _)
   | (with_reducible exact ih2 _ _ _ _)
   | (with_reducible exact copyholdref01_Num.mono _ _)
   | (with_reducible exact LeO.refl _)
   | (with_reducible exact LeO.none _)
   | (with_reducible refine LeO.ite ?_ ?_)
   | (with_reducible refine LeO.bind ?_ (fun _ => ?_))
   | exact ih0 _ _
   | exact ih1 _ _ _
   | exact ih2 _ _ _ _
   | exact copyholdref01_Num.mono _ _
   | exact LeO.none _
   | refine LeO.ite ?_ ?_
   | refine LeO.bind ?_ (fun _ => ?_)
  ·intro y0 y1 y2 y3
   unfold copyholdref01_TakeNum.l1
   repeat' first
   | (with_reducible exact ih0 _ _)
   | (with_reducible exact ih1 _ _ _)
   | (with_reducible exact ih2 _ _ _ _)
   | (with_reducible exact copyholdref01_Num.mono _ _)
   | (with_reducible exact LeO.refl _)
   | (with_reducible exact LeO.none _)
   | (with_reducible refine LeO.ite ?_ ?_)
   | (with_reducible refine LeO.bind ?_ (fun _ => ?_))
   | exact ih0 _ _
   | exact ih1 _ _ _
   | exact ih2 _ _ _ _
   | exact copyholdref01_Num.mono _ _
   | exact LeO.none _
   | refine LeO.ite ?_ ?_
   | refine LeO.bind ?_ (fun _ => ?_)
theorem copyholdref01_TakeNum.mono : ∀ a0 k, LeO (copyholdref01_TakeNum.f k a0) (copyholdref01_TakeNum.f (k + 1) a0) := by
 intro a0 k
 obtain ⟨ih0, ih1, ih2⟩ := copyholdref01_TakeNum.mono_l k
 unfold copyholdref01_TakeNum.f
 repeat' first
   | (with_reducible exact ih0 _ _)
   | (with_reducible exact ih1 _ _ _)
   | (with_reducible exact ih2 _ _ _ _)
   | (with_reducible exact copyholdref01_Num.mono _ _)
   | (with_reducible exact LeO.refl _)
   | (with_reducible exact LeO.none _)
   | (with_reducible refine LeO.ite ?_ ?_)
   | (with_reducible refine LeO.bind ?_ (fun _ => ?_))
   | exact ih0 _ _
   | exact ih1 _ _ _
   | exact ih2 _ _ _ _
   | exact copyholdref01_Num.mono _ _
   | exact LeO.none _
   | refine LeO.ite ?_ ?_
   | refine LeO.bind ?_ (fun _ => ?_)
def copyholdref01_TakeNum.T15 : Bool × List (List Nat × List Nat) := (true, [([], []), ([], []), ([], []), ([2], [2]), ([1, 3], [1, 3]), ([0, 0], [0]), ([4, 5, 0, 1, 2, 3, 4, 5], [4]), ([6, 0, 1, 2, 3, 4, 5, 6], [])])
def copyholdref01_TakeNum.B15 : List Nat := [0, 0, 0, 4, 14, 1, 63, 127]
theorem copyholdref01_TakeNum.tab15 : rtab .any (opsOf Try.f70 15) = copyholdref01_TakeNum.T15 := by kernel_rfl
theorem copyholdref01_TakeNum.bits15 : waitsOk copyholdref01_TakeNum.T15.2 copyholdref01_TakeNum.B15 = true := by kernel_rfl
set_option maxHeartbeats 8000000 in
set_option maxRecDepth 100000 in
theorem copyholdref01_TakeNum.calls (k : Nat) (a0 : ByteArray) (r1 : Int) (r2 : ByteArray) (r3 : Int) (w : World) (h : copyholdref01_TakeNum.f k a0 = some (r1, r2, r3)) :
  Calls Try.prog 70 #[.string a0] w fun e w' => e = .returned (.tuple #[.int .u64 r1, .string r2, .int .i64 r3]) ∧ Below w.heap.size w w' := by
 have HB := zqj (Below.refl w.heap.size w)
 have H : (copyholdref01_TakeNum.l0 k a0 0) = some (r1, r2, r3) := h
 clear h
 have H' := zqj H
 clear H
 go_enter Try.func70, Try.ntmps70
 go_wp2
 go_loopg [5] k (fun kq v5 w' => ∃ (x5_1 : Int), v5 = .int .i64 x5_1 ∧ Aside0 (copyholdref01_TakeNum.l0 kq a0 x5_1 = some (r1, r2, r3)) ∧ Aside0 (kq ≤ k) ∧ Aside0 (Below w.heap.size w w'))
 case atStart => exact ⟨(0), (by first | rfl | (simp; done) | (simp [*]; done)), H', ⟨Nat.le_refl _⟩, ⟨by repeat (first | (with_reducible first | exact HB.out | apply zqg | apply zqe | apply zqf) | exact HB.out)⟩⟩
 case round =>
  clear H'
  obtain ⟨x5_1, rfl, HA, HK1, HB⟩ := hrel
  cases gk with
  | zero => exact absurd HA.out (by simp [copyholdref01_TakeNum.l0])
  | succ k1 =>
   (have H := HA.out; clear HA)
   simp only [copyholdref01_TakeNum.l0] at H
   have HC2 := zqj H
   clear H
   go_upto_region 2 with (fail)
   go_cut [17] (fun v17 wc => ∃ (kq : Nat) (x17_1 : Bool), v17 = .bool x17_1 ∧ Aside0 (copyholdref01_TakeNum.j1 kq a0 x5_1 x17_1 = some (r1, r2, r3)) ∧ Aside0 (kq ≤ k1) ∧ Aside0 (Below w.heap.size w wc))
   case first =>
    (have H := HC2.out; clear HC2)
    by_cases c3 : x5_1 < (a0.size : Int)
    ·rw [if_pos c3] at H
     have c3b0 : decide (x5_1 < (a0.size : Int)) = true := decide_eq_true c3
     clear c3
     (first | rw [c3b0] | (simp only [i64_w, i32_w]; rw [c3b0]) | skip)
     by_cases c4 : 0 ≤ x5_1
     ·rw [if_pos c4] at H
      have c4b0 : decide (0 ≤ x5_1) = true := decide_eq_true c4
      clear c4
      have H' := zqj H
      clear H
      have p5 : 0 ≤ (x5_1 : Int) := zqh (by first | (with_reducible assumption) | assumption)
      have q5 : x5_1 < (a0.size : Int) := zqh (by first | (with_reducible assumption) | assumption)
      have hx5 := bt_at a0 x5_1
      replace p5 := eq_true p5
      replace q5 := eq_true q5
      go_wp2
      go_meet
      case rel => exact ⟨_, (decide ((bt a0 x5_1) ≥ 128)), (by first | rfl | (simp; done) | (simp [*]; done)), H', ⟨by have := HK1.out; first | omega | exact Nat.le_refl _⟩, ⟨by repeat (first | (with_reducible first | exact HB.out | apply zqg | apply zqe | apply zqf) | exact HB.out)⟩⟩
     ·rw [if_neg c4] at H
      exact absurd H (by simp)
    ·rw [if_neg c3] at H
     have c3b0 : decide (x5_1 < (a0.size : Int)) = false := decide_eq_false c3
     clear c3
     (first | rw [c3b0] | (simp only [i64_w, i32_w]; rw [c3b0]) | skip)
     have H' := zqj H
     clear H
     go_wp2
     go_meet
     case rel => exact ⟨_, (false), (by first | rfl | (simp; done) | (simp [*]; done)), H', ⟨by have := HK1.out; first | omega | exact Nat.le_refl _⟩, ⟨by repeat (first | (with_reducible first | exact HB.out | apply zqg | apply zqe | apply zqf) | exact HB.out)⟩⟩
   case rest =>
    (clear HC2; (try clear p2); (try clear c3); (try clear c3b0); (try clear c4); (try clear c4b0); (try clear p5); (try clear q5); (try clear hx5); (try clear p5); (try clear q5))
    obtain ⟨kq, x17_1, rfl, HA, HJ1, HB⟩ := hcut
    cases kq with
    | zero => exact absurd HA.out (by simp [copyholdref01_TakeNum.j1])
    | succ kj1 =>
     (have H := HA.out; clear HA)
     simp only [copyholdref01_TakeNum.j1] at H
     by_cases c6 : x17_1 = true
     ·subst c6
      have H1 : (if (wrap64 (x5_1 + 1)) = 10 then (some (0, (⟨#[]⟩ : ByteArray), 3)) else (copyholdref01_TakeNum.l0 kj1 a0 (wrap64 (x5_1 + 1)))) = some (r1, r2, r3) := by rw [if_pos rfl] at H; exact H
      clear H
      have H := H1
      clear H1
      by_cases c7 : (wrap64 (x5_1 + 1)) = 10
      ·rw [if_pos c7] at H
       have c7b0 : ((wrap64 (x5_1 + 1)) == 10) = true := beq_iff_eq.mpr c7
       have c7b1 : ((wrap64 (x5_1 + 1)) != 10) = false := bne_eq_false_iff_eq.mpr c7
       clear c7
       simp only [Option.some.injEq, Prod.mk.injEq] at H
       obtain ⟨rfl, rfl, rfl⟩ := H
       go_wp2
       go_ret3
       exact ⟨by first | rfl | (simp [errW_none, errW_some] <;> rfl) | (simp [*, errW_none, errW_some] <;> rfl), by repeat (first | (with_reducible first | exact HB.out | apply zqg | apply zqe | apply zqf) | exact HB.out)⟩
      ·rw [if_neg c7] at H
       have c7b0 : ((wrap64 (x5_1 + 1)) == 10) = false := beq_eq_false_iff_ne.mpr c7
       have c7b1 : ((wrap64 (x5_1 + 1)) != 10) = true := bne_iff_ne.mpr c7
       have H' := zqj H
       clear H
       go_wp2
       go_roundg kj1
       case measure => have := HK1.out; have := HJ1.out; omega
       case rel => exact ⟨(wrap64 (x5_1 + 1)), (by first | rfl | (simp; done) | (simp [*]; done)), H', ⟨by have := HK1.out; have := HJ1.out; omega⟩, ⟨by repeat (first | (with_reducible first | exact HB.out | apply zqg | apply zqe | apply zqf) | exact HB.out)⟩⟩
     ·replace c6 := Bool.eq_false_iff.mpr c6
      subst c6
      have H1 : (if x5_1 = (a0.size : Int) then (some (0, (⟨#[]⟩ : ByteArray), 2)) else (copyholdref01_TakeNum.l1 kj1 a0 x5_1 0 x5_1)) = some (r1, r2, r3) := by rw [if_neg (show ¬ (false = true) by decide)] at H; exact H
      clear H
      have H := H1
      clear H1
      by_cases c8 : x5_1 = (a0.size : Int)
      ·rw [if_pos c8] at H
       have c8b0 : (x5_1 == (a0.size : Int)) = true := beq_iff_eq.mpr c8
       have c8b1 : (x5_1 != (a0.size : Int)) = false := bne_eq_false_iff_eq.mpr c8
       clear c8
       simp only [Option.some.injEq, Prod.mk.injEq] at H
       obtain ⟨rfl, rfl, rfl⟩ := H
       go_wp2
       go_ret3
       exact ⟨by first | rfl | (simp [errW_none, errW_some] <;> rfl) | (simp [*, errW_none, errW_some] <;> rfl), by repeat (first | (with_reducible first | exact HB.out | apply zqg | apply zqe | apply zqf) | exact HB.out)⟩
      ·rw [if_neg c8] at H
       have c8b0 : (x5_1 == (a0.size : Int)) = false := beq_eq_false_iff_ne.mpr c8
       have c8b1 : (x5_1 != (a0.size : Int)) = true := bne_iff_ne.mpr c8
       have H' := zqj H
       clear H
       go_wp2
       go_loopg [6, 7] kj1 (fun kq v6 v7 w' => ∃ (x6_3 : Int) (x7_3 : Int), v6 = .int .u64 x6_3 ∧ v7 = .int .i64 x7_3 ∧ Aside0 (copyholdref01_TakeNum.l1 kq a0 x5_1 x6_3 x7_3 = some (r1, r2, r3)) ∧ Aside0 (kq ≤ kj1) ∧ Aside0 (Below w.heap.size w w'))
       case atStart => exact ⟨(0), (x5_1), (by first | rfl | (simp; done) | (simp [*]; done)), (by first | rfl | (simp; done) | (simp [*]; done)), H', ⟨Nat.le_refl _⟩, ⟨by repeat (first | (with_reducible first | exact HB.out | apply zqg | apply zqe | apply zqf) | exact HB.out)⟩⟩
       case round =>
        clear H'
        ((try clear p2); (try clear c3); (try clear c3b0); (try clear c4); (try clear c4b0); (try clear p5); (try clear q5); (try clear hx5); (try clear c6); (try clear p6); (try clear c7); (try clear c7b0); (try clear c7b1); (try clear c8); (try clear c8b0); (try clear c8b1); (try clear p2); (try clear p5); (try clear q5))
        obtain ⟨x6_3, x7_3, rfl, rfl, HA, HK3, HB⟩ := hrel
        cases gk with
        | zero => exact absurd HA.out (by simp [copyholdref01_TakeNum.l1])
        | succ k3 =>
         (have H := HA.out; clear HA)
         simp only [copyholdref01_TakeNum.l1] at H
         by_cases c9 : x7_3 ≥ 0
         ·rw [if_pos c9] at H
          have c9b0 : decide (0 ≤ x7_3) = true := decide_eq_true c9
          clear c9
          by_cases c10 : 0 ≤ x7_3
          ·rw [if_pos c10] at H
           have c10b0 : decide (0 ≤ x7_3) = true := decide_eq_true c10
           clear c10
           by_cases c11 : x7_3 < (a0.size : Int)
           ·rw [if_pos c11] at H
            have c11b0 : decide (x7_3 < (a0.size : Int)) = true := decide_eq_true c11
            clear c11
            have H' := zqj H
            clear H
            have p12 : 0 ≤ (x7_3 : Int) := zqh (by first | (with_reducible assumption) | assumption)
            have q12 : x7_3 < (a0.size : Int) := zqh (by first | (with_reducible assumption) | assumption)
            have hx12 := bt_at a0 x7_3
            replace p12 := eq_true p12
            replace q12 := eq_true q12
            go_wp2
            go_roundg k3
            case measure => have := HK1.out; have := HJ1.out; have := HK3.out; omega
            case rel => exact ⟨(IntKind.u64.wrap ((IntKind.u64.wrap (128 * x6_3)) + (IntKind.u64.wrap (Int.tmod (bt a0 x7_3) 128)))), (wrap64 (x7_3 - 1)), (by first | rfl | (simp; done) | (simp [*]; done)), (by first | rfl | (simp; done) | (simp [*]; done)), H', ⟨by have := HK1.out; have := HJ1.out; have := HK3.out; omega⟩, ⟨by repeat (first | (with_reducible first | exact HB.out | apply zqg | apply zqe | apply zqf) | exact HB.out)⟩⟩
           ·rw [if_neg c11] at H
            exact absurd H (by simp)
          ·rw [if_neg c10] at H
           exact absurd H (by simp)
         ·rw [if_neg c9] at H
          have c9b0 : decide (0 ≤ x7_3) = false := decide_eq_false c9
          clear c9
          replace H := zqn H
          obtain ⟨t131, A130, H⟩ := H
          replace H : (if 0 ≤ (wrap64 (x5_1 + 1)) then (if (wrap64 (x5_1 + 1)) ≤ (a0.size : Int) then (if t131.toList = (a0.extract 0 ((wrap64 (x5_1 + 1)) : Int).toNat).toList then (some (x6_3, a0.extract ((wrap64 (x5_1 + 1)) : Int).toNat a0.size, 0)) else (some (0, (⟨#[]⟩ : ByteArray), 3))) else (none)) else (none)) = some (r1, r2, r3) := H
          have A13 := zqj A130
          clear A130
          obtain ⟨ji14, hji14⟩ : ∃ j_ : Int, (wrap64 (x5_1 + 1)) = j_ := ⟨_, rfl⟩
          replace H : (if 0 ≤ (ji14) then (if (ji14) ≤ (a0.size : Int) then (if t131.toList = (a0.extract 0 ((ji14) : Int).toNat).toList then (some (x6_3, a0.extract ((ji14) : Int).toNat a0.size, 0)) else (some (0, (⟨#[]⟩ : ByteArray), 3))) else (none)) else (none)) = some (r1, r2, r3) := by first | (rw [hji14] at H; exact H) | (simp only [hji14] at H ⊢; exact H)
          (try rw [hji14] at A13)
          have hji14w : (IntKind.i64.wrap (x5_1 + 1)) = ji14 := (i64_w _).trans hji14
          by_cases c15 : 0 ≤ (ji14)
          ·rw [if_pos c15] at H
           have c15b0 := eq_true c15
           have c15b1 : decide (0 ≤ (ji14)) = true := decide_eq_true c15
           clear c15
           by_cases c16 : (ji14) ≤ (a0.size : Int)
           ·rw [if_pos c16] at H
            have c16b0 := eq_true c16
            have c16b1 : decide ((ji14) ≤ (a0.size : Int)) = true := decide_eq_true c16
            clear c16
            by_cases c17 : t131.toList = (a0.extract 0 ((ji14) : Int).toNat).toList
            ·rw [if_pos c17] at H
             have c17b0 : (t131.toList == (a0.extract 0 ((ji14) : Int).toNat).toList) = true := beq_iff_eq.mpr c17
             have c17b1 : (t131.toList != (a0.extract 0 ((ji14) : Int).toNat).toList) = false := bne_eq_false_iff_eq.mpr c17
             clear c17
             have c18b0 := eq_true (zqh (by first | (with_reducible assumption) | assumption) : 0 ≤ (ji14))
             have c19b0 := eq_true (zqh (by first | (with_reducible assumption) | assumption) : (ji14) ≤ (a0.size : Int))
             simp only [Option.some.injEq, Prod.mk.injEq] at H
             obtain ⟨rfl, rfl, rfl⟩ := H
             try go_wp2
             have n0_ := zqj (zqf HB.out)
             (clear HB; have HB := n0_; clear n0_)
             refine start_ (n := 7) (S := fun w' => True) (ds := []) #[false, false, false, false, false, false, false] (by kernel_rfl) rfl rfl trivial (fun hHeld => ?_)
             generalize wr.drew = w20 at HB hHeld ⊢
             refine pure_ (i := 0) (N := some 39) (v := ?_) (a' := ?_) #[true, false, false, false, false, false, false] rfl rfl (by kernel_rfl) (fun _ _ _ h => h) (Or.inl ⟨by rfl, ?_⟩) ?_ ?_
             (rotate_left; · (intro w'; go_simp; with_reducible rfl))
             (rotate_left; · (simp only [Act.put, zqk, zql, zqm, i64_w, i32_w]; rfl))
             refine pure_ (i := 2) (N := some 41) (v := ?_) (a' := ?_) #[true, false, true, false, false, false, false] rfl rfl (by kernel_rfl) (fun _ _ _ h => h) (Or.inl ⟨by rfl, ?_⟩) ?_ ?_
             (rotate_left; · (intro w'; go_simp; with_reducible rfl))
             (rotate_left; · (simp only [Act.put, zqk, zql, zqm, i64_w, i32_w]; rfl))
             refine pure_ (i := 3) (N := some 42) (v := ?_) (a' := ?_) #[true, false, true, true, false, false, false] rfl rfl (by kernel_rfl) (fun _ _ _ h => h) (Or.inl ⟨by rfl, ?_⟩) ?_ ?_
             (rotate_left; · (intro w'; go_simp; with_reducible rfl))
             (rotate_left; · (simp only [Act.put, zqk, zql, zqm, i64_w, i32_w]; rfl))
             refine pure_ (i := 4) (N := some 43) (v := ?_) (a' := ?_) #[true, false, true, true, true, false, false] rfl rfl (by kernel_rfl) (fun _ _ _ h => h) (Or.inl ⟨by rfl, ?_⟩) ?_ ?_
             (rotate_left; · (intro w'; go_simp; with_reducible rfl))
             (rotate_left; · (simp only [Act.put, zqk, zql, zqm, i64_w, i32_w]; rfl))
             refine pure_ (i := 5) (N := some 44) (v := ?_) (a' := ?_) #[true, false, true, true, true, true, false] rfl rfl (by kernel_rfl) (fun _ _ _ h => h) (Or.inl ⟨by rfl, ?_⟩) ?_ ?_
             (rotate_left; · (intro w'; go_simp; with_reducible rfl))
             (rotate_left; · (simp only [Act.put, zqk, zql, zqm, i64_w, i32_w]; rfl))
             refine one_ (i := 1) (N := some 40) #[true, true, true, true, true, true, false] rfl rfl (by kernel_rfl) (by decide) (fun K hK => ?_)
             refine goes_ Try.func59 (by kernel_rfl) rfl #[.int .u64 x6_3] (by rfl) rfl rfl (by (try simp only [List.map_toArray, List.map_cons, List.map_nil]); first | done | rfl | (simp only [List.length_drop, List.length_take]; rfl)) ?_
             with_reducible refine (copyholdref01_Num.calls k3 x6_3 t131 _ A13.out).mono ?_
             rintro e w21 ⟨rfl, hb⟩
             refine ⟨_, rfl, ?_⟩
             have n0_ := zqj (below_step (by repeat (first | (with_reducible first | exact HB.out | apply zqg | apply zqe | apply zqf) | exact HB.out)) hb)
             (clear HB; have HB := n0_; clear n0_; (try clear hb); (try clear hb2); (try clear hk); (try clear hi))
             refine hK.out _ _ trivial (fun hHeld => ?_)
             clear hK K
             refine norm_ (a' := ?_) ?_ ?_
             rotate_left
             ·show Act.put _ (some 40) _ = _
              simp only [Act.put, zqk, zql, zqm, i64_w, i32_w]
              rfl
             refine pure_ (i := 6) (N := some 45) (v := ?_) (a' := ?_) #[true, true, true, true, true, true, true] rfl rfl (by kernel_rfl) (fun _ _ _ h => h) (Or.inl ⟨by rfl, ?_⟩) ?_ ?_
             (rotate_left; · (intro w'; go_simp; with_reducible rfl))
             (rotate_left; · (simp only [Act.put, zqk, zql, zqm, i64_w, i32_w]; rfl))
             refine done_ (by kernel_rfl) ?_
             try go_wp2
             have n0_ := zqj (zqf HB.out)
             (clear HB; have HB := n0_; clear n0_)
             refine start_ (n := 8) (S := fun w' => True) (ds := []) #[false, false, false, false, false, false, false, false] (by kernel_rfl) rfl rfl trivial (fun hHeld => ?_); refine with_tabW copyholdref01_TakeNum.tab15 copyholdref01_TakeNum.bits15 (fun HT_ HW_ => ?_)
             generalize w21.drew = w22 at HB hHeld ⊢
             refine pure_ (i := 0) (N := some 46) (v := ?_) (a' := ?_) #[true, false, false, false, false, false, false, false] rfl rfl (any_of HT_.out (by kernel_rfl)) (fun _ _ _ h => h) (Or.inl ⟨by rfl, ?_⟩) ?_ ?_
             (rotate_left; · (intro w'; go_simp; with_reducible rfl))
             (rotate_left; · (simp only [Act.put, zqk, zql, zqm, i64_w, i32_w]; rfl))
             refine pure_ (i := 1) (N := some 47) (v := ?_) (a' := ?_) #[true, true, false, false, false, false, false, false] rfl rfl (any_of HT_.out (by kernel_rfl)) (fun _ _ _ h => h) (Or.inl ⟨by rfl, ?_⟩) ?_ ?_
             (rotate_left; · (intro w'; go_simp; with_reducible rfl))
             (rotate_left; · (simp only [Act.put, zqk, zql, zqm, i64_w, i32_w]; rfl))
             refine pure_ (i := 2) (N := some 48) (v := ?_) (a' := ?_) #[true, true, true, false, false, false, false, false] rfl rfl (any_of HT_.out (by kernel_rfl)) (fun _ _ _ h => h) (Or.inl ⟨by rfl, ?_⟩) ?_ ?_
             (rotate_left; · (intro w'; go_simp; with_reducible rfl))
             (rotate_left; · (simp only [Act.put, zqk, zql, zqm, i64_w, i32_w]; rfl))
             refine pure_ (i := 3) (N := some 49) (v := ?_) (a' := ?_) #[true, true, true, true, false, false, false, false] rfl rfl (any_of HT_.out (by kernel_rfl)) (fun _ _ _ h => h) (Or.inl ⟨by rfl, ?_⟩) ?_ ?_
             (rotate_left; · (intro w'; go_simp; with_reducible rfl))
             (rotate_left; · (simp only [Act.put, zqk, zql, zqm, i64_w, i32_w]; rfl))
             refine pure_ (i := 4) (N := some 50) (v := ?_) (a' := ?_) #[true, true, true, true, true, false, false, false] rfl rfl (any_of HT_.out (by kernel_rfl)) (fun _ _ _ h => h) (Or.inl ⟨by rfl, ?_⟩) ?_ ?_
             (rotate_left; · (intro w'; go_simp; with_reducible rfl))
             (rotate_left; · (simp only [Act.put, zqk, zql, zqm, i64_w, i32_w]; rfl))
             refine pure_ (i := 5) (N := some 2) (v := ?_) (a' := ?_) #[true, true, true, true, true, true, false, false] rfl rfl (any_of HT_.out (by kernel_rfl)) (fun _ _ _ h => h) (Or.inl ⟨by rfl, ?_⟩) ?_ ?_
             (rotate_left; · (intro w'; go_simp; with_reducible rfl))
             (rotate_left; · (simp only [Act.put, zqk, zql, zqm, i64_w, i32_w]; rfl))
             refine pure_ (i := 6) (N := some 3) (v := ?_) (a' := ?_) #[true, true, true, true, true, true, true, false] rfl rfl (any_of HT_.out (by kernel_rfl)) (fun _ _ _ h => h) (Or.inl ⟨by rfl, ?_⟩) ?_ ?_
             (rotate_left; · (intro w'; go_simp; with_reducible rfl))
             (rotate_left; · (simp only [Act.put, zqk, zql, zqm, i64_w, i32_w]; rfl))
             refine pure_ (i := 7) (N := some 4) (v := ?_) (a' := ?_) #[true, true, true, true, true, true, true, true] rfl rfl (any_of HT_.out (by kernel_rfl)) (fun _ _ _ h => h) (Or.inl ⟨by rfl, ?_⟩) ?_ ?_
             (rotate_left; · (intro w'; go_simp; with_reducible rfl))
             (rotate_left; · (simp only [Act.put, zqk, zql, zqm, i64_w, i32_w]; rfl))
             refine done_ (done_of HT_.out (by kernel_rfl)) ?_
             try go_wp2
             go_ret3
             exact ⟨by first | rfl | (simp [errW_none, errW_some] <;> rfl) | (simp only [← hji14]; first | rfl | (simp [errW_none, errW_some] <;> rfl)) | (simp [*, errW_none, errW_some] <;> rfl), by repeat (first | (with_reducible first | exact HB.out | apply zqg | apply zqe | apply zqf) | exact HB.out)⟩
            ·rw [if_neg c17] at H
             have c17b0 : (t131.toList == (a0.extract 0 ((ji14) : Int).toNat).toList) = false := beq_eq_false_iff_ne.mpr c17
             have c17b1 : (t131.toList != (a0.extract 0 ((ji14) : Int).toNat).toList) = true := bne_iff_ne.mpr c17
             simp only [Option.some.injEq, Prod.mk.injEq] at H
             obtain ⟨rfl, rfl, rfl⟩ := H
             try go_wp2
             have n0_ := zqj (zqf HB.out)
             (clear HB; have HB := n0_; clear n0_)
             refine start_ (n := 7) (S := fun w' => True) (ds := []) #[false, false, false, false, false, false, false] (by kernel_rfl) rfl rfl trivial (fun hHeld => ?_)
             generalize wr.drew = w23 at HB hHeld ⊢
             refine pure_ (i := 0) (N := some 39) (v := ?_) (a' := ?_) #[true, false, false, false, false, false, false] rfl rfl (by kernel_rfl) (fun _ _ _ h => h) (Or.inl ⟨by rfl, ?_⟩) ?_ ?_
             (rotate_left; · (intro w'; go_simp; with_reducible rfl))
             (rotate_left; · (simp only [Act.put, zqk, zql, zqm, i64_w, i32_w]; rfl))
             refine pure_ (i := 2) (N := some 41) (v := ?_) (a' := ?_) #[true, false, true, false, false, false, false] rfl rfl (by kernel_rfl) (fun _ _ _ h => h) (Or.inl ⟨by rfl, ?_⟩) ?_ ?_
             (rotate_left; · (intro w'; go_simp; with_reducible rfl))
             (rotate_left; · (simp only [Act.put, zqk, zql, zqm, i64_w, i32_w]; rfl))
             refine pure_ (i := 3) (N := some 42) (v := ?_) (a' := ?_) #[true, false, true, true, false, false, false] rfl rfl (by kernel_rfl) (fun _ _ _ h => h) (Or.inl ⟨by rfl, ?_⟩) ?_ ?_
             (rotate_left; · (intro w'; go_simp; with_reducible rfl))
             (rotate_left; · (simp only [Act.put, zqk, zql, zqm, i64_w, i32_w]; rfl))
             refine pure_ (i := 4) (N := some 43) (v := ?_) (a' := ?_) #[true, false, true, true, true, false, false] rfl rfl (by kernel_rfl) (fun _ _ _ h => h) (Or.inl ⟨by rfl, ?_⟩) ?_ ?_
             (rotate_left; · (intro w'; go_simp; with_reducible rfl))
             (rotate_left; · (simp only [Act.put, zqk, zql, zqm, i64_w, i32_w]; rfl))
             refine pure_ (i := 5) (N := some 44) (v := ?_) (a' := ?_) #[true, false, true, true, true, true, false] rfl rfl (by kernel_rfl) (fun _ _ _ h => h) (Or.inl ⟨by rfl, ?_⟩) ?_ ?_
             (rotate_left; · (intro w'; go_simp; with_reducible rfl))
             (rotate_left; · (simp only [Act.put, zqk, zql, zqm, i64_w, i32_w]; rfl))
             refine one_ (i := 1) (N := some 40) #[true, true, true, true, true, true, false] rfl rfl (by kernel_rfl) (by decide) (fun K hK => ?_)
             refine goes_ Try.func59 (by kernel_rfl) rfl #[.int .u64 x6_3] (by rfl) rfl rfl (by (try simp only [List.map_toArray, List.map_cons, List.map_nil]); first | done | rfl | (simp only [List.length_drop, List.length_take]; rfl)) ?_
             with_reducible refine (copyholdref01_Num.calls k3 x6_3 t131 _ A13.out).mono ?_
             rintro e w24 ⟨rfl, hb⟩
             refine ⟨_, rfl, ?_⟩
             have n0_ := zqj (below_step (by repeat (first | (with_reducible first | exact HB.out | apply zqg | apply zqe | apply zqf) | exact HB.out)) hb)
             (clear HB; have HB := n0_; clear n0_; (try clear hb); (try clear hb2); (try clear hk); (try clear hi))
             refine hK.out _ _ trivial (fun hHeld => ?_)
             clear hK K
             refine norm_ (a' := ?_) ?_ ?_
             rotate_left
             ·show Act.put _ (some 40) _ = _
              simp only [Act.put, zqk, zql, zqm, i64_w, i32_w]
              rfl
             refine pure_ (i := 6) (N := some 45) (v := ?_) (a' := ?_) #[true, true, true, true, true, true, true] rfl rfl (by kernel_rfl) (fun _ _ _ h => h) (Or.inl ⟨by rfl, ?_⟩) ?_ ?_
             (rotate_left; · (intro w'; go_simp; with_reducible rfl))
             (rotate_left; · (simp only [Act.put, zqk, zql, zqm, i64_w, i32_w]; rfl))
             refine done_ (by kernel_rfl) ?_
             try go_wp2
             go_ret3
             exact ⟨by first | rfl | (simp [errW_none, errW_some] <;> rfl) | (simp only [← hji14]; first | rfl | (simp [errW_none, errW_some] <;> rfl)) | (simp [*, errW_none, errW_some] <;> rfl), by repeat (first | (with_reducible first | exact HB.out | apply zqg | apply zqe | apply zqf) | exact HB.out)⟩
           ·rw [if_neg c16] at H
            exact absurd H (by simp)
          ·rw [if_neg c15] at H
           exact absurd H (by simp)
end Go.Proofs.Ytcbfnfggnocndaa.X
end

section
namespace Go.Proofs.Ytcbfnfggnocndaa.Pure
open Go.RowKit Go.Proofs.Ytcbfnfggnocndaa.Q Go.Proofs.Ytcbfnfggnocndaa.X Go.Proofs.YtcbfnfggnocndaaW.PrintWords Math
def badPut (n : Nat) (p : S88) : Bool := decide (p.f0 < 0) || (decide ((n : Int) ≤ p.f0) || !(decide (p.f1.size = 64)))
def rightB (l0 : List ByteArray) (l1 : List S88) : Bool := decide (1 ≤ l0.length) && (decide (l0.length ≤ 4096) && (!(l0.any fun s => !(decide (s.size = 64))) && !(l1.any (badPut l0.length))))
def zeroS : ByteArray := strOfNums (List.replicate 64 0)
theorem rdo {l : List ByteArray} {i : Nat} (h : i < l.length) : rdOf ByteArray.empty l (i : Int) = l[i] := by
  unfold rdOf; rw [Int.toNat_natCast]; simp [List.getD_eq_getElem?_getD, h]
theorem rdp {l : List S88} {i : Nat} (h : i < l.length) : rd_T88 l (i : Int) = l[i] := by
  unfold rd_T88; rw [Int.toNat_natCast]; simp [List.getD_eq_getElem?_getD, h]
structure Rt (l0 : List ByteArray) (l1 : List S88) : Prop where
  pos : 0 < l0.length
  len : l0.length ≤ 4096
  rows : ∀ s ∈ l0, s.size = 64
  at_ : ∀ p ∈ l1, 0 ≤ p.f0 ∧ p.f0 < (l0.length : Int)
  puts : ∀ p ∈ l1, p.f1.size = 64
theorem rt_of {l0 : List ByteArray} {l1 : List S88} (h : rightB l0 l1 = true) : Rt l0 l1 := by
  unfold rightB at h
  simp only [Bool.and_eq_true, decide_eq_true_eq, Bool.not_eq_true', List.any_eq_false, decide_eq_false_iff_not] at h
  obtain ⟨h1, h2, h3, h4⟩ := h
  have hb : ∀ p ∈ l1, badPut l0.length p = false := fun p hp => by simpa using h4 p hp
  refine ⟨h1, h2, fun s hs => by have := h3 s hs; simpa using this, fun p hp => ?_, fun p hp => ?_⟩
  · have := hb p hp; unfold badPut at this; simp at this; omega
  · have := hb p hp; unfold badPut at this; simp at this; omega
theorem of_rt {l0 : List ByteArray} {l1 : List S88} (h : Rt l0 l1) : rightB l0 l1 = true := by
  obtain ⟨h1, h2, h3, h4, h5⟩ := h
  unfold rightB
  simp only [Bool.and_eq_true, decide_eq_true_eq, Bool.not_eq_true', List.any_eq_false, decide_eq_false_iff_not]
  refine ⟨h1, h2, fun s hs => by simp [h3 s hs], fun p hp => ?_⟩
  have a := h4 p hp; have b := h5 p hp
  unfold badPut; simp; omega
theorem Rt.ok {l0 : List ByteArray} {l1 : List S88} (h : Rt l0 l1) (h1 : l1.length ≤ 1000000000) : DiskOk l0 l1 := ⟨h.pos, by have := h.len; omega, h1, h.at_⟩
theorem chosenL_mem {α : Type} (is : Nat → Bool) (qs : List α) : ∀ k, ∀ x ∈ chosenL is qs k, x ∈ qs
  | 0, x, h => by simp [chosenL] at h
  | k + 1, x, h => by
    rw [chosenL] at h
    split at h
    · rcases List.mem_append.1 h with h | h
      · exact chosenL_mem is qs k x h
      · have := Option.mem_toList.1 h
        exact List.mem_of_getElem? this
    · exact chosenL_mem is qs k x h
theorem chosenL_all {α : Type} (is : Nat → Bool) (qs : List α) : ∀ k, (∀ i, i < k → is i = true) → k ≤ qs.length → chosenL is qs k = qs.take k
  | 0, _, _ => by simp [chosenL]
  | k + 1, hi, h => by
    rw [chosenL, if_pos (hi k (by omega)), chosenL_all is qs k (fun i h => hi i (by omega)) (by omega), List.getElem?_eq_getElem (by omega), List.take_add_one, List.getElem?_eq_getElem (by omega)]
theorem doneL_all (l0 : List ByteArray) (l1 : List S88) (is : Nat → Bool) (h : ∀ i, i < l1.length → is i = true) : doneL l0 l1 is = imgL l0 l1 := by
  unfold doneL; rw [chosenL_all is l1 l1.length h (Nat.le_refl _), List.take_length]
theorem doneL_len (l0 : List ByteArray) (l1 : List S88) (is : Nat → Bool) : (doneL l0 l1 is).length = l0.length := imgL_len _ _
theorem imgL_cons (l : List ByteArray) (p : S88) (ps : List S88) : imgL l (p :: ps) = imgL (l.set p.f0.toNat p.f1) ps := rfl
theorem imgL_at (a : Nat) : ∀ (ps : List S88) (l : List ByteArray), (imgL l ps)[a]? = l[a]? ∨ ∃ p ∈ ps, p.f0.toNat = a ∧ (imgL l ps)[a]? = some p.f1
  | [], l => Or.inl rfl
  | p :: ps, l => by
    rw [imgL_cons]
    rcases imgL_at a ps (l.set p.f0.toNat p.f1) with h | ⟨q, hq, h1, h2⟩
    · rw [h]
      by_cases e : p.f0.toNat = a
      · by_cases hl : a < l.length
        · exact Or.inr ⟨p, List.mem_cons_self, e, by rw [e, List.getElem?_set_self hl]⟩
        · left
          rw [List.getElem?_eq_none (by simp; omega), List.getElem?_eq_none (by omega)]
      · left; rw [List.getElem?_set_ne e]
    · exact Or.inr ⟨q, List.mem_cons_of_mem _ hq, h1, h2⟩
theorem imgL_mem {s : ByteArray} (ps : List S88) (l : List ByteArray) (h : s ∈ imgL l ps) : s ∈ l ∨ ∃ p ∈ ps, s = p.f1 := by
  obtain ⟨a, ha⟩ := List.mem_iff_getElem?.1 h
  rcases imgL_at a ps l with h | ⟨q, hq, _, h⟩
  · exact Or.inl (List.mem_iff_getElem?.2 ⟨a, h ▸ ha⟩)
  · exact Or.inr ⟨q, hq, by rw [h] at ha; exact (Option.some.inj ha).symm⟩
theorem Rt.img {l0 : List ByteArray} {l1 : List S88} (h : Rt l0 l1) (is : Nat → Bool) : ∀ s ∈ doneL l0 l1 is, s.size = 64 := fun s hs => by
  rcases imgL_mem _ _ hs with a | ⟨p, hp, rfl⟩
  · exact h.rows s a
  · exact h.puts p (chosenL_mem _ _ _ p hp)
theorem Rt.done {l0 : List ByteArray} {l1 : List S88} (h : Rt l0 l1) (is : Nat → Bool) : Rt (doneL l0 l1 is) [] :=
  ⟨by rw [doneL_len]; exact h.pos, by rw [doneL_len]; exact h.len, h.img is, fun _ hp => by simp at hp, fun _ hp => by simp at hp⟩
theorem app_nil (x : ByteArray) : x ++ (⟨#[]⟩ : ByteArray) = x := by apply inj; rw [app]; simp
theorem nil_app (x : ByteArray) : (⟨#[]⟩ : ByteArray) ++ x = x := by apply inj; rw [app]; simp
theorem app_as (x y z : ByteArray) : x ++ y ++ z = x ++ (y ++ z) := by apply inj; rw [app, app, app, app, List.append_assoc]
theorem z1 : (⟨#[0]⟩ : ByteArray) = strOfNums [0] := by decide +kernel
theorem imgL_snocs (l0 : List ByteArray) (l1 : List S88) (i : Nat) (hi : i < l1.length) : imgL l0 (l1.take (i + 1)) = (imgL l0 (l1.take i)).set l1[i].f0.toNat l1[i].f1 := by
  rw [List.take_add_one, List.getElem?_eq_getElem hi]; exact imgL_snoc l0 (l1.take i) l1[i]
theorem image_ref {l0 : List ByteArray} {l1 : List S88} (off : Bool) (h : Rt l0 l1) (h1 : l1.length ≤ 1000000) (k : Nat) (hk : l1.length < k) : copyholdref04_Image.f k l0 l1 off = some (imgL l0 l1) := by
  have hl := h.len
  have go : ∀ (n i k : Nat), i + n = l1.length → n < k → copyholdref04_Image.l0 k (imgL l0 (l1.take i)) (i : Int) l0 l1 off = some (imgL l0 l1) := by
    intro n
    induction n with
    | zero => intro i k hi hk; obtain ⟨k, rfl⟩ : ∃ j, k = j + 1 := ⟨k - 1, by omega⟩; rw [copyholdref04_Image.l0, if_neg (by omega), List.take_of_length_le (by omega)]
    | succ n ih =>
      intro i k hi hk; obtain ⟨k, rfl⟩ : ∃ j, k = j + 1 := ⟨k - 1, by omega⟩
      have hi' : i < l1.length := by omega
      have ha := h.at_ _ (List.getElem_mem hi')
      rw [copyholdref04_Image.l0, if_pos (by omega), if_pos (by omega), rdp hi', if_pos ha.1, if_pos (by rw [imgL_len]; exact ha.2), ← imgL_snocs l0 l1 i hi', w64 (by omega) (by omega), show (i : Int) + 1 = ((i + 1 : Nat) : Int) by omega, ih (i + 1) k (by omega) (by omega)]
  unfold copyholdref04_Image.f
  rw [bs rfl, if_pos (by simp; omega)]
  exact go l1.length 0 k (by omega) hk
theorem Rt.im {l0 : List ByteArray} {l1 : List S88} (h : Rt l0 l1) : ∀ s ∈ imgL l0 l1, s.size = 64 := by
  have := h.img (fun _ => true); rwa [doneL_all _ _ _ (fun _ _ => rfl)] at this
theorem fillS_size (s : ByteArray) (h : s.size ≤ 64) : (fillS s).size = 64 := by
  unfold fillS; rw [app_size, nums_size, List.length_replicate]; omega
end Go.Proofs.Ytcbfnfggnocndaa.Pure
end

section
namespace Go.Proofs.Ytcbfnfggnocndaa
open Go.RowKit Go.Proofs.YtcbfnfggnocndaaW.PrintWords Go.Proofs.YtcbfnfggnocndaaW.PrintLast Go.Proofs.YtcbfnfggnocndaaW.PrintMore Math
end Go.Proofs.Ytcbfnfggnocndaa
end

section
namespace Go.Proofs.Ytcbfnfggnocndaa
open Go.RowKit Go.Proofs.Ytcbfnfggnocndaa.Q Go.Proofs.Ytcbfnfggnocndaa.X Go.Proofs.YtcbfnfggnocndaaW.PrintWords Go.Proofs.YtcbfnfggnocndaaW.PrintLast Go.Proofs.YtcbfnfggnocndaaW.PrintMore Math
theorem ref_num (k : Nat) : ∀ n : Nat, n < 128 ^ (k + 1) → n < 18446744073709551616 → copyholdref01_Num.f (k + 1) (n : Int) = some (numS n) := by
  induction k with
  | zero =>
    intro n h h2
    simp only [copyholdref01_Num.f]
    rw [if_pos (by omega)]
    refine congrArg some ?_
    apply inj
    rw [numS_dl, numB_lo (by omega), nums_dl]
    rw [List.map_cons, List.map_nil, show ((n : Int) % 256).toNat = n from by omega]
  | succ k ih =>
    intro n h h2
    have hu : copyholdref01_Num.f (k + 1 + 1) (n : Int) = if (n : Int) < 128 then (some (strOfNums (([((n : Int)) % 256] : List Int)))) else ((some (([(IntKind.u64.wrap ((Int.tmod (n : Int) 128) + 128)) % 256] : List Int) : List Int)).bind fun y113 => ((copyholdref01_Num.f (k + 1) (IntKind.u64.wrap (Int.tdiv (n : Int) 128))).bind fun t116 => (if (strOfNums y113).size + t116.size ≤ 9223372036854775807 then (some ((strOfNums y113) ++ t116)) else (none)))) := rfl
    rw [hu]
    by_cases h1 : n < 128
    · rw [if_pos (by omega)]
      refine congrArg some ?_
      apply inj
      rw [numS_dl, numB_lo (by omega), nums_dl]
      rw [List.map_cons, List.map_nil, show ((n : Int) % 256).toNat = n from by omega]
    · have hr := ih (n / 128) (by rw [Nat.div_lt_iff_lt_mul (by decide)]; rw [Nat.pow_succ] at h; exact h) (by omega)
      have hsz := numS_size10 (n := n / 128) (by omega)
      rw [if_neg (by omega), bs rfl, Int.tdiv_eq_ediv_of_nonneg (by omega), Int.tmod_eq_emod_of_nonneg (by omega), IntKind.wrap_u64, IntKind.wrap_u64, show ((n : Int) / 128 % 18446744073709551616) = ((n / 128 : Nat) : Int) from by omega, bs hr, if_pos (by rw [nums_size, List.length_cons, List.length_nil]; omega)]
      refine congrArg some ?_
      apply inj
      rw [app, nums_dl, numS_dl, numS_dl, numB_hi (n := n) (by omega)]
      rw [List.map_cons, List.map_nil, List.cons_append, List.nil_append, show (((n : Int) % 128 + 128) % 18446744073709551616 % 256).toNat = n % 128 + 128 from by omega]
theorem ref_num10 {n k : Nat} (h : n < 18446744073709551616) (hk : 10 ≤ k) : copyholdref01_Num.f k (n : Int) = some (numS n) := by
  obtain ⟨j, rfl⟩ : ∃ j, k = j + 1 := ⟨k - 1, by omega⟩
  refine ref_num j n ?_ h
  have : 128 ^ 10 ≤ 128 ^ (j + 1) := Nat.pow_le_pow_right (by decide) (by omega)
  omega
theorem ref_text {s : ByteArray} (hs : s.size ≤ 140737488355000) {k : Nat} (hk : 10 ≤ k) : copyholdref01_Text.f k s = some (textS s) := by
  unfold copyholdref01_Text.f
  have hsz := numS_size10 (n := s.size) (by omega)
  rw [IntKind.wrap_u64, show ((s.size : Int) % 18446744073709551616) = ((s.size : Nat) : Int) from by omega, bs (ref_num10 (by omega) hk), if_pos (by omega)]
  rfl
end Go.Proofs.Ytcbfnfggnocndaa
end
