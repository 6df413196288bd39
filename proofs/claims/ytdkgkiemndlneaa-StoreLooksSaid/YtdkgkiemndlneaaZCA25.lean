import Derived.Test.YtdkgkiemndlneaaZCA24
import Derived.Laws.EntriesVeiled
import Derived.Lib.AppendZerosOnto
import Derived.Lib.Overlaps
import Derived.Lib.SliceRun
import Derived.Laws.CopyRow
import Derived.Laws.Externs
import Derived.Laws.NewBlocks
import Derived.Shelf.RegionOpenPlain
import Derived.WalkKit
import Derived.Deep.RegionLawGrows
import Derived.WalkMore
import Derived.Test.YtdkgkiemndlneaaZCA23
import Derived.Test.YtdkgkiemndlneaaZCAA
set_option linter.unusedVariables false
set_option linter.unusedSimpArgs false
section
namespace Go.Proofs.Ytdkgkiemndlneaa.Y
open Go.RowKit Go.Proofs.YtdkgkiemndlneaaW.PrintWords Go.Proofs.YtdkgkiemndlneaaW.PrintLast Go.Proofs.YtdkgkiemndlneaaW.PrintMore
open Go.Proofs.Ytdkgkiemndlneaa.Q
attribute [local go_sem] max2_int min2_int max_two min_two max_three min_three max_four min_four   -- for this text's walks alone
open Go.Proofs.Ytdkgkiemndlneaa.X
attribute [local go_sem high] Go.Proofs.Ytdkgkiemndlneaa.px_xor_u8 Go.Proofs.Ytdkgkiemndlneaa.px_xor_u16 Go.Proofs.Ytdkgkiemndlneaa.px_xor_u32 Go.Proofs.Ytdkgkiemndlneaa.px_xor_u64
attribute [local go_sem high] eqA61
def store_Same_1.f (k : Nat) (a0_0 : Int) (a0_1 : Bool) (a0_2 : Int) (a0_3 : Int) (a0_4 : Int) (a0_5 : ByteArray) (l0_6 : List (S91)) (a1_0 : Int) (a1_1 : Bool) (a1_2 : Int) (a1_3 : Int) (a1_4 : Int) (a1_5 : ByteArray) (l1_6 : List (S91)) : Option (Bool) := if a0_0 = a1_0 then (if (a0_1 == a1_1) = true then ((node_Same.f k a0_2 a0_3 a0_4 a0_5 l0_6 a1_2 a1_3 a1_4 a1_5 l1_6).bind fun t103 => (some t103)) else (some false)) else (some false)
theorem store_Same_1.mono : ∀ a0 a1 a2 a3 a4 a5 a6 a7 a8 a9 a10 a11 a12 a13 k, LeO (store_Same_1.f k a0 a1 a2 a3 a4 a5 a6 a7 a8 a9 a10 a11 a12 a13) (store_Same_1.f (k + 1) a0 a1 a2 a3 a4 a5 a6 a7 a8 a9 a10 a11 a12 a13) := by
 intro a0 a1 a2 a3 a4 a5 a6 a7 a8 a9 a10 a11 a12 a13 k
 unfold store_Same_1.f
 repeat' first
   | (with_reducible exact node_Same.mono _ _ _ _ _ _ _ _ _ _ _)
   | (with_reducible exact LeO.refl _)
   | (with_reducible exact LeO.none _)
   | (with_reducible refine LeO.ite ?_ ?_)
   | (with_reducible refine LeO.bind ?_ (fun _ => ?_))
   | exact node_Same.mono _ _ _ _ _ _ _ _ _ _ _
   | exact LeO.none _
   | refine LeO.ite ?_ ?_
   | refine LeO.bind ?_ (fun _ => ?_)
set_option maxHeartbeats 8000000 in
set_option maxRecDepth 100000 in
theorem store_Same_1.calls (k : Nat) (a0_0 : Int) (a0_1 : Bool) (a0_2 : Int) (a0_3 : Int) (a0_4 : Int) (a0_5 : ByteArray) (A0_6 : Option Addr) (c0_6 : Nat) (l0_6 : List (S91)) (a1_0 : Int) (a1_1 : Bool) (a1_2 : Int) (a1_3 : Int) (a1_4 : Int) (a1_5 : ByteArray) (A1_6 : Option Addr) (c1_6 : Nat) (l1_6 : List (S91)) (r : Bool) (w : World) (hr0_6 : Kd.C k91 w A0_6 l0_6.length l0_6) (hc0_6 : l0_6.length ≤ c0_6) (hr1_6 : Kd.C k91 w A1_6 l1_6.length l1_6) (hc1_6 : l1_6.length ≤ c1_6) (h : store_Same_1.f k a0_0 a0_1 a0_2 a0_3 a0_4 a0_5 l0_6 a1_0 a1_1 a1_2 a1_3 a1_4 a1_5 l1_6 = some r) :
  Calls Try.prog 44 #[.agg #[.int .i64 a0_0, .bool a0_1, .int .i64 a0_2, .int .i64 a0_3, .int .i64 a0_4, .string a0_5, .slice A0_6 l0_6.length c0_6], .agg #[.int .i64 a1_0, .bool a1_1, .int .i64 a1_2, .int .i64 a1_3, .int .i64 a1_4, .string a1_5, .slice A1_6 l1_6.length c1_6]] w fun e w' => e = .returned (.bool r) ∧ Below w.heap.size w w' := by
 have hu58 := Try.underlying58
 have hu38 := Try.underlying38
 have HR0_6 := zqj hr0_6
 have HC0_6 := zqj hc0_6
 clear hr0_6 hc0_6
 have HR1_6 := zqj hr1_6
 have HC1_6 := zqj hc1_6
 clear hr1_6 hc1_6
 have HB := zqj (Below.refl w.heap.size w)
 have H : (if a0_0 = a1_0 then (if (a0_1 == a1_1) = true then ((node_Same.f k a0_2 a0_3 a0_4 a0_5 l0_6 a1_2 a1_3 a1_4 a1_5 l1_6).bind fun t103 => (some t103)) else (some false)) else (some false)) = some r := h
 clear h
 by_cases c3 : a0_0 = a1_0
 ·rw [if_pos c3] at H
  have c3b0 : (a0_0 == a1_0) = true := beq_iff_eq.mpr c3
  have c3b1 : (a0_0 != a1_0) = false := bne_eq_false_iff_eq.mpr c3
  clear c3
  by_cases c4 : (a0_1 == a1_1) = true
  ·rw [if_pos c4] at H
   have c4b0 : (a0_1 == a1_1) = true := c4
   (try (have c4b1 : decide (a0_1 = a1_1) = true := by simpa using c4))
   (try (have c4b2 : (a0_1 == a1_1) = true := by simpa using c4))
   clear c4
   replace H := zqn H
   obtain ⟨t103, A50, H⟩ := H
   replace H : (some t103) = some r := H
   have A5 := zqj A50
   clear A50
   obtain rfl := Option.some.inj H
   go_enter Try.func44, Try.ntmps44
   go_wp2_with (first | ((with_reducible refine gate_dst (N := 2) rfl ?_); refine box_event ?hg (N := 2) ?hd (cs := #[.int .i64 a0_0, .bool a0_1, .int .i64 a0_2, .int .i64 a0_3, .int .i64 a0_4, .string a0_5, .slice A0_6 l0_6.length c0_6]) (t := 58) ?hr ?_; (case hd => rfl); (case hg => rfl); (case hr => exact zrr); intro gb101 hg w6 hbox hb; have n0_ := zqj (below_step (zrd0 HB.out) hb); have n1_ := zqj (hbox); have n2_ : Aside0 (w.heap.size ≤ gb101) := ⟨by rw [hg]; exact below_size (zrd0 HB.out)⟩; have n3_ := n2_; clear HB; have HB := n0_; have BK101 := n1_; have GW101 := n2_; have GE101 := n3_; clear n0_ n1_ n2_ n3_; clear hb hbox hg) | ((with_reducible refine gate_dst (N := 3) rfl ?_); refine box_event ?hg (N := 3) ?hd (cs := #[.int .i64 a1_0, .bool a1_1, .int .i64 a1_2, .int .i64 a1_3, .int .i64 a1_4, .string a1_5, .slice A1_6 l1_6.length c1_6]) (t := 58) ?hr ?_; (case hd => rfl); (case hg => rfl); (case hr => exact zrr); intro gb102 hg w7 hbox hb; have n0_ := zqj (blk_below (g := gb101) (o := .cells #[.int .i64 a0_0, .bool a0_1, .int .i64 a0_2, .int .i64 a0_3, .int .i64 a0_4, .string a0_5, .slice A0_6 l0_6.length c0_6] 58 (0, 0)) (zrb BK101.out) hb); have n1_ := zqj (below_step (zrd1 HB.out GE101.out) hb); have n2_ := zqj (hbox); have n3_ := zqj ((by rw [hg]; exact (below_size (zrd1 HB.out GE101.out)) : w.heap.size ≤ gb102)); have n4_ := zqj ((by rw [hg]; exact (below_size (zrd1 HB.out GE101.out)) : w.heap.size ≤ gb102)); have n5_ := zqj ((by rw [hg]; exact Nat.ne_of_lt (blk_lt (g := gb101) (o := .cells #[.int .i64 a0_0, .bool a0_1, .int .i64 a0_2, .int .i64 a0_3, .int .i64 a0_4, .string a0_5, .slice A0_6 l0_6.length c0_6] 58 (0, 0)) (zrb BK101.out)) : gb101 ≠ gb102)); have n6_ := zqj ((by rw [hg]; exact Nat.ne_of_gt (blk_lt (g := gb101) (o := .cells #[.int .i64 a0_0, .bool a0_1, .int .i64 a0_2, .int .i64 a0_3, .int .i64 a0_4, .string a0_5, .slice A0_6 l0_6.length c0_6] 58 (0, 0)) (zrb BK101.out)) : gb102 ≠ gb101)); clear BK101; clear HB; have BK101 := n0_; have HB := n1_; have BK102 := n2_; have GW102 := n3_; have GE102 := n4_; have NB101_102 := n5_; have NB102_101 := n6_; clear n0_ n1_ n2_ n3_ n4_ n5_ n6_; clear hb hbox hg; have hnb8 := NB101_102.out; have hnc8 := NB102_101.out; obtain ⟨hcz9_0, hcz9_1, hcz9_2, hcz9_3, hcz9_4, hcz9_5, hcz9_6⟩ := zc7 BK101.out; obtain ⟨hfz9_0, hfz9_1, hfz9_2, hfz9_3, hfz9_4, hfz9_5, hfz9_6⟩ := zf7 BK101.out; obtain ⟨hcz10_0, hcz10_1, hcz10_2, hcz10_3, hcz10_4, hcz10_5, hcz10_6⟩ := zc7 BK102.out; obtain ⟨hfz10_0, hfz10_1, hfz10_2, hfz10_3, hfz10_4, hfz10_5, hfz10_6⟩ := zf7 BK102.out) | (go_at_call 45; (with_reducible refine (node_Same.calls k a0_2 a0_3 a0_4 a0_5 _ _ l0_6 a1_2 a1_3 a1_4 a1_5 _ _ l1_6 t103 _ ?side1 ?side2 ?side3 ?side4 A5.out).mono ?_); (case side1 => exact zrc (Kd.C_below HR0_6.out HB.out)); (case side2 => exact HC0_6.out); (case side3 => exact zrc (Kd.C_below HR1_6.out HB.out)); (case side4 => exact HC1_6.out); rintro e w11 ⟨rfl, hb⟩; replace BK101 := zqj (blk_below (g := gb101) (o := .cells #[.int .i64 a0_0, .bool a0_1, .int .i64 a0_2, .int .i64 a0_3, .int .i64 a0_4, .string a0_5, .slice A0_6 l0_6.length c0_6] 58 (0, 0)) (zrb BK101.out) hb); replace BK102 := zqj (blk_below (g := gb102) (o := .cells #[.int .i64 a1_0, .bool a1_1, .int .i64 a1_2, .int .i64 a1_3, .int .i64 a1_4, .string a1_5, .slice A1_6 l1_6.length c1_6] 58 (0, 0)) (zrb BK102.out) hb); replace HB := zqj (below_step (zrd2 HB.out GE101.out GE102.out) hb); (try clear hb); (try clear hb2); (try clear hk); (try clear hi)))
   go_ret
   exact ⟨zru, by repeat (first | (with_reducible first | exact HB.out | apply zqg | apply zqe | apply zqf | refine zqd ?_ GE101.out | refine zqd ?_ GE102.out) | exact HB.out)⟩
  ·rw [if_neg c4] at H
   have c4b0 : (a0_1 == a1_1) = false := by simpa using c4
   (try (have c4b1 : decide (a0_1 = a1_1) = false := by simpa using c4))
   (try (have c4b2 : (a0_1 == a1_1) = false := by simpa using c4))
   (try (have c4b3 : ¬ (a0_1 = a1_1) := by simpa using c4))
   clear c4
   obtain rfl := Option.some.inj H
   go_enter Try.func44, Try.ntmps44
   go_wp2_with (first | ((with_reducible refine gate_dst (N := 2) rfl ?_); refine box_event ?hg (N := 2) ?hd (cs := #[.int .i64 a0_0, .bool a0_1, .int .i64 a0_2, .int .i64 a0_3, .int .i64 a0_4, .string a0_5, .slice A0_6 l0_6.length c0_6]) (t := 58) ?hr ?_; (case hd => rfl); (case hg => rfl); (case hr => exact zrr); intro gb101 hg w12 hbox hb; have n0_ := zqj (below_step (zrd0 HB.out) hb); have n1_ := zqj (hbox); have n2_ : Aside0 (w.heap.size ≤ gb101) := ⟨by rw [hg]; exact below_size (zrd0 HB.out)⟩; have n3_ := n2_; clear HB; have HB := n0_; have BK101 := n1_; have GW101 := n2_; have GE101 := n3_; clear n0_ n1_ n2_ n3_; clear hb hbox hg) | ((with_reducible refine gate_dst (N := 3) rfl ?_); refine box_event ?hg (N := 3) ?hd (cs := #[.int .i64 a1_0, .bool a1_1, .int .i64 a1_2, .int .i64 a1_3, .int .i64 a1_4, .string a1_5, .slice A1_6 l1_6.length c1_6]) (t := 58) ?hr ?_; (case hd => rfl); (case hg => rfl); (case hr => exact zrr); intro gb102 hg w13 hbox hb; have n0_ := zqj (blk_below (g := gb101) (o := .cells #[.int .i64 a0_0, .bool a0_1, .int .i64 a0_2, .int .i64 a0_3, .int .i64 a0_4, .string a0_5, .slice A0_6 l0_6.length c0_6] 58 (0, 0)) (zrb BK101.out) hb); have n1_ := zqj (below_step (zrd1 HB.out GE101.out) hb); have n2_ := zqj (hbox); have n3_ := zqj ((by rw [hg]; exact (below_size (zrd1 HB.out GE101.out)) : w.heap.size ≤ gb102)); have n4_ := zqj ((by rw [hg]; exact (below_size (zrd1 HB.out GE101.out)) : w.heap.size ≤ gb102)); have n5_ := zqj ((by rw [hg]; exact Nat.ne_of_lt (blk_lt (g := gb101) (o := .cells #[.int .i64 a0_0, .bool a0_1, .int .i64 a0_2, .int .i64 a0_3, .int .i64 a0_4, .string a0_5, .slice A0_6 l0_6.length c0_6] 58 (0, 0)) (zrb BK101.out)) : gb101 ≠ gb102)); have n6_ := zqj ((by rw [hg]; exact Nat.ne_of_gt (blk_lt (g := gb101) (o := .cells #[.int .i64 a0_0, .bool a0_1, .int .i64 a0_2, .int .i64 a0_3, .int .i64 a0_4, .string a0_5, .slice A0_6 l0_6.length c0_6] 58 (0, 0)) (zrb BK101.out)) : gb102 ≠ gb101)); clear BK101; clear HB; have BK101 := n0_; have HB := n1_; have BK102 := n2_; have GW102 := n3_; have GE102 := n4_; have NB101_102 := n5_; have NB102_101 := n6_; clear n0_ n1_ n2_ n3_ n4_ n5_ n6_; clear hb hbox hg; have hnb14 := NB101_102.out; have hnc14 := NB102_101.out; obtain ⟨hcz15_0, hcz15_1, hcz15_2, hcz15_3, hcz15_4, hcz15_5, hcz15_6⟩ := zc7 BK101.out; obtain ⟨hfz15_0, hfz15_1, hfz15_2, hfz15_3, hfz15_4, hfz15_5, hfz15_6⟩ := zf7 BK101.out; obtain ⟨hcz16_0, hcz16_1, hcz16_2, hcz16_3, hcz16_4, hcz16_5, hcz16_6⟩ := zc7 BK102.out; obtain ⟨hfz16_0, hfz16_1, hfz16_2, hfz16_3, hfz16_4, hfz16_5, hfz16_6⟩ := zf7 BK102.out))
   go_ret
   exact ⟨zru, by repeat (first | (with_reducible first | exact HB.out | apply zqg | apply zqe | apply zqf | refine zqd ?_ GE101.out | refine zqd ?_ GE102.out) | exact HB.out)⟩
 ·rw [if_neg c3] at H
  have c3b0 : (a0_0 == a1_0) = false := beq_eq_false_iff_ne.mpr c3
  have c3b1 : (a0_0 != a1_0) = true := bne_iff_ne.mpr c3
  obtain rfl := Option.some.inj H
  go_enter Try.func44, Try.ntmps44
  go_wp2_with (first | ((with_reducible refine gate_dst (N := 2) rfl ?_); refine box_event ?hg (N := 2) ?hd (cs := #[.int .i64 a0_0, .bool a0_1, .int .i64 a0_2, .int .i64 a0_3, .int .i64 a0_4, .string a0_5, .slice A0_6 l0_6.length c0_6]) (t := 58) ?hr ?_; (case hd => rfl); (case hg => rfl); (case hr => exact zrr); intro gb101 hg w17 hbox hb; have n0_ := zqj (below_step (zrd0 HB.out) hb); have n1_ := zqj (hbox); have n2_ : Aside0 (w.heap.size ≤ gb101) := ⟨by rw [hg]; exact below_size (zrd0 HB.out)⟩; have n3_ := n2_; clear HB; have HB := n0_; have BK101 := n1_; have GW101 := n2_; have GE101 := n3_; clear n0_ n1_ n2_ n3_; clear hb hbox hg) | ((with_reducible refine gate_dst (N := 3) rfl ?_); refine box_event ?hg (N := 3) ?hd (cs := #[.int .i64 a1_0, .bool a1_1, .int .i64 a1_2, .int .i64 a1_3, .int .i64 a1_4, .string a1_5, .slice A1_6 l1_6.length c1_6]) (t := 58) ?hr ?_; (case hd => rfl); (case hg => rfl); (case hr => exact zrr); intro gb102 hg w18 hbox hb; have n0_ := zqj (blk_below (g := gb101) (o := .cells #[.int .i64 a0_0, .bool a0_1, .int .i64 a0_2, .int .i64 a0_3, .int .i64 a0_4, .string a0_5, .slice A0_6 l0_6.length c0_6] 58 (0, 0)) (zrb BK101.out) hb); have n1_ := zqj (below_step (zrd1 HB.out GE101.out) hb); have n2_ := zqj (hbox); have n3_ := zqj ((by rw [hg]; exact (below_size (zrd1 HB.out GE101.out)) : w.heap.size ≤ gb102)); have n4_ := zqj ((by rw [hg]; exact (below_size (zrd1 HB.out GE101.out)) : w.heap.size ≤ gb102)); have n5_ := zqj ((by rw [hg]; exact Nat.ne_of_lt (blk_lt (g := gb101) (o := .cells #[.int .i64 a0_0, .bool a0_1, .int .i64 a0_2, .int .i64 a0_3, .int .i64 a0_4, .string a0_5, .slice A0_6 l0_6.length c0_6] 58 (0, 0)) (zrb BK101.out)) : gb101 ≠ gb102)); have n6_ := zqj ((by rw [hg]; exact Nat.ne_of_gt (blk_lt (g := gb101) (o := .cells #[.int .i64 a0_0, .bool a0_1, .int .i64 a0_2, .int .i64 a0_3, .int .i64 a0_4, .string a0_5, .slice A0_6 l0_6.length c0_6] 58 (0, 0)) (zrb BK101.out)) : gb102 ≠ gb101)); clear BK101; clear HB; have BK101 := n0_; have HB := n1_; have BK102 := n2_; have GW102 := n3_; have GE102 := n4_; have NB101_102 := n5_; have NB102_101 := n6_; clear n0_ n1_ n2_ n3_ n4_ n5_ n6_; clear hb hbox hg; have hnb19 := NB101_102.out; have hnc19 := NB102_101.out; obtain ⟨hcz20_0, hcz20_1, hcz20_2, hcz20_3, hcz20_4, hcz20_5, hcz20_6⟩ := zc7 BK101.out; obtain ⟨hfz20_0, hfz20_1, hfz20_2, hfz20_3, hfz20_4, hfz20_5, hfz20_6⟩ := zf7 BK101.out; obtain ⟨hcz21_0, hcz21_1, hcz21_2, hcz21_3, hcz21_4, hcz21_5, hcz21_6⟩ := zc7 BK102.out; obtain ⟨hfz21_0, hfz21_1, hfz21_2, hfz21_3, hfz21_4, hfz21_5, hfz21_6⟩ := zf7 BK102.out))
  go_ret
  exact ⟨zru, by repeat (first | (with_reducible first | exact HB.out | apply zqg | apply zqe | apply zqf | refine zqd ?_ GE101.out | refine zqd ?_ GE102.out) | exact HB.out)⟩
def api_Ver.l0 : Nat → List (S58) → List (S58) → Int → Int → Option (Bool)
 | 0, _, _, _, _ => none
 | k + 1, x1, x15, x16, x17 => if x17 < x16 then (if 0 ≤ x17 then (if x17 < (x15.length : Int) then (if x17 < (x1.length : Int) then ((store_Same_1.f k ((rd_T58 x15 x17).f0) ((rd_T58 x15 x17).f1) ((rd_T58 x15 x17).f2.f0) ((rd_T58 x15 x17).f2.f1) ((rd_T58 x15 x17).f2.f2) ((rd_T58 x15 x17).f2.f3) ((rd_T58 x15 x17).f2.f4) ((rd_T58 x1 x17).f0) ((rd_T58 x1 x17).f1) ((rd_T58 x1 x17).f2.f0) ((rd_T58 x1 x17).f2.f1) ((rd_T58 x1 x17).f2.f2) ((rd_T58 x1 x17).f2.f3) ((rd_T58 x1 x17).f2.f4)).bind fun t108 => (if t108 = true then (api_Ver.l0 k x1 x15 x16 (wrap64 (x17 + 1))) else (some false))) else (none)) else (none)) else (none)) else (some true)
def api_Ver.f (k : Nat) (l0 : List (S58)) (l1 : List (S58)) (a2 : Unit) : Option (Bool) := if (l0.length : Int) = (l1.length : Int) then (api_Ver.l0 k l1 l0 (l0.length : Int) 0) else (some false)
theorem api_Ver.mono_l : ∀ k, (∀ y0 y1 y2 y3, LeO (api_Ver.l0 k y0 y1 y2 y3) (api_Ver.l0 (k + 1) y0 y1 y2 y3))
 | 0 => fun _ _ _ _ r h => by simp [api_Ver.l0] at h
 | k + 1 => by
  have ih0 := api_Ver.mono_l k
  ·intro y0 y1 y2 y3
   unfold api_Ver.l0
   repeat' first
   | (with_reducible exact ih0 _ _ _ _)
   | (with_reducible exact store_Same_1.mono _ _ _ _ _ _ _ _ _ _ _ _ _ _ _)
   | (with_reducible exact LeO.refl _)
   | (with_reducible exact LeO.none _)
   | (with_reducible refine LeO.ite ?_ ?_)
   | (with_reducible refine LeO.bind ?_ (fun _ => ?_))
   | exact ih0 _ _ _ _
   | exact store_Same_1.mono _ _ _ _ _ _ _ _ _ _ _ _ _ _ _
   | exact LeO.none _
   | refine LeO.ite ?_ ?_
   | refine LeO.bind ?_ (fun _ => ?_)
theorem api_Ver.mono : ∀ a0 a1 a2 k, LeO (api_Ver.f k a0 a1 a2) (api_Ver.f (k + 1) a0 a1 a2) := by
 intro a0 a1 a2 k
 have ih0 := api_Ver.mono_l k
 unfold api_Ver.f
 repeat' first
   | (with_reducible exact ih0 _ _ _ _)
   | (with_reducible exact store_Same_1.mono _ _ _ _ _ _ _ _ _ _ _ _ _ _ _)
   | (with_reducible exact LeO.refl _)
   | (with_reducible exact LeO.none _)
   | (with_reducible refine LeO.ite ?_ ?_)
   | (with_reducible refine LeO.bind ?_ (fun _ => ?_))
   | exact ih0 _ _ _ _
   | exact store_Same_1.mono _ _ _ _ _ _ _ _ _ _ _ _ _ _ _
   | exact LeO.none _
   | refine LeO.ite ?_ ?_
   | refine LeO.bind ?_ (fun _ => ?_)
set_option maxHeartbeats 8000000 in
set_option maxRecDepth 100000 in
theorem api_Ver.calls (k : Nat) (A0 : Option Addr) (c0 : Nat) (l0 : List (S58)) (A1 : Option Addr) (c1 : Nat) (l1 : List (S58)) (a2 : Unit) (r : Bool) (w : World) (hr0 : Kd.C k58 w A0 l0.length l0) (hc0 : l0.length ≤ c0) (hr1 : Kd.C k58 w A1 l1.length l1) (hc1 : l1.length ≤ c1) (h : api_Ver.f k l0 l1 a2 = some r) :
  Calls Try.prog 47 #[.slice A0 l0.length c0, .slice A1 l1.length c1, .func (.func 44) #[] #[]] w fun e w' => e = .returned (.bool r) ∧ Below w.heap.size w w' := by
 have hu58 := Try.underlying58
 have HR0 := zqj hr0
 have HC0 := zqj hc0
 clear hr0 hc0
 have HR1 := zqj hr1
 have HC1 := zqj hc1
 clear hr1 hc1
 have HB := zqj (Below.refl w.heap.size w)
 have H : (if (l0.length : Int) = (l1.length : Int) then (api_Ver.l0 k l1 l0 (l0.length : Int) 0) else (some false)) = some r := h
 clear h
 by_cases c4 : (l0.length : Int) = (l1.length : Int)
 ·rw [if_pos c4] at H
  have c4b0 : ((l0.length : Int) == (l1.length : Int)) = true := beq_iff_eq.mpr c4
  have c4b1 : ((l0.length : Int) != (l1.length : Int)) = false := bne_eq_false_iff_eq.mpr c4
  have c4b2 : (l0.length == l1.length) = true := by first | simpa using c4 | (simp at c4 ⊢; omega)
  clear c4
  have H' := zqj H
  clear H
  go_enter Try.func47, Try.ntmps47
  go_wp2
  go_loopg [17] k (fun kq v17 w' => ∃ (x17_1 : Int), v17 = .int .i64 x17_1 ∧ Aside0 (api_Ver.l0 kq l1 l0 (l0.length : Int) x17_1 = some r) ∧ Aside0 (kq ≤ k) ∧ Aside0 (Below w.heap.size w w'))
  case atStart => exact ⟨(0), zrt, H', ⟨Nat.le_refl _⟩, ⟨by repeat (first | (with_reducible first | exact HB.out | apply zqg | apply zqe | apply zqf) | exact HB.out)⟩⟩
  case round =>
   clear H'
   ((try clear c1); (try clear p2); (try clear c4); (try clear c4b0); (try clear c4b1); (try clear c4b2))
   obtain ⟨x17_1, rfl, HA, HK1, HB⟩ := hrel
   cases gk with
   | zero => exact absurd HA.out (by simp [api_Ver.l0])
   | succ k1 =>
    (have H := HA.out; clear HA)
    simp only [api_Ver.l0] at H
    by_cases c5 : x17_1 < (l0.length : Int)
    ·rw [if_pos c5] at H
     have c5b0 : decide (x17_1 < (l0.length : Int)) = true := decide_eq_true c5
     clear c5
     by_cases c6 : 0 ≤ x17_1
     ·rw [if_pos c6] at H
      have c6b0 : decide (0 ≤ x17_1) = true := decide_eq_true c6
      clear c6
      by_cases c7 : x17_1 < (l0.length : Int)
      ·rw [if_pos c7] at H
       have c7b0 : decide (x17_1 < (l0.length : Int)) = true := decide_eq_true c7
       clear c7
       by_cases c8 : x17_1 < (l1.length : Int)
       ·rw [if_pos c8] at H
        have c8b0 : decide (x17_1 < (l1.length : Int)) = true := decide_eq_true c8
        clear c8
        replace H := zqn H
        obtain ⟨t108, A90, H⟩ := H
        replace H : (if t108 = true then (api_Ver.l0 k1 l1 l0 (l0.length : Int) (wrap64 (x17_1 + 1))) else (some false)) = some r := H
        have A9 := zqj A90
        clear A90
        by_cases c10 : t108 = true
        ·subst c10
         have H1 : (api_Ver.l0 k1 l1 l0 (l0.length : Int) (wrap64 (x17_1 + 1))) = some r := by rw [if_pos rfl] at H; exact H
         clear H
         have H := H1
         clear H1
         have H' := zqj H
         clear H
         have p104 : 0 ≤ (x17_1 : Int) := zqh zrs
         have q104 : x17_1 < (l0.length : Int) := zqh zrs
         obtain ⟨ad104, A104_6, c104_6, e104, hx104_0, hx104_1, hx104_2, hx104_3, hx104_4, hx104_5, hx104_6, hl104_6, hi104_6⟩ := at_T58 HR0.out x17_1 p104 q104
         cases e104
         replace hx104_0 := zx HB.out hx104_0
         replace hx104_1 := zx HB.out hx104_1
         replace hx104_2 := zx HB.out hx104_2
         replace hx104_3 := zx HB.out hx104_3
         replace hx104_4 := zx HB.out hx104_4
         replace hx104_5 := zx HB.out hx104_5
         replace hx104_6 := zx HB.out hx104_6
         have HR104_6 := zqj hi104_6
         have HC104_6 := zqj hl104_6
         clear hi104_6 hl104_6
         replace p104 := eq_true p104
         replace q104 := eq_true q104
         go_wp2_with (first | ((with_reducible refine gate_dst (N := 8) rfl ?_); refine box_event ?hg (N := 8) ?hd (cs := #[.int .i64 0, .bool false, .int .i64 0, .int .i64 0, .int .i64 0, .string (⟨#[]⟩ : ByteArray), .slice none 0 0]) (t := 58) ?hr ?_; (case hd => rfl); (case hg => rfl); (case hr => exact zrr); intro gb105 hg w11 hbox hb; have n0_ := zqj (below_step (zrd0 HB.out) hb); have n1_ := zqj (hbox); have n2_ : Aside0 (w.heap.size ≤ gb105) := ⟨by rw [hg]; exact below_size (zrd0 HB.out)⟩; have n3_ := n2_; clear HB; have HB := n0_; have BK105 := n1_; have GW105 := n2_; have GE105 := n3_; clear n0_ n1_ n2_ n3_; clear hb hbox hg; obtain ⟨hcz12_0, hcz12_1, hcz12_2, hcz12_3, hcz12_4, hcz12_5, hcz12_6⟩ := zc7 BK105.out; obtain ⟨hfz12_0, hfz12_1, hfz12_2, hfz12_3, hfz12_4, hfz12_5, hfz12_6⟩ := zf7 BK105.out; have p106 : 0 ≤ (x17_1 : Int) := zqh zrs; have q106 : x17_1 < (l1.length : Int) := zqh zrs; obtain ⟨ad106, A106_6, c106_6, e106, hx106_0, hx106_1, hx106_2, hx106_3, hx106_4, hx106_5, hx106_6, hl106_6, hi106_6⟩ := at_T58 HR1.out x17_1 p106 q106; cases e106; have hn106_0 : ad106.block ≠ gb105 := Nat.ne_of_lt (Nat.lt_of_lt_of_le (by have := World.block_lt_of_cell? _ _ hx106_0; first | rwa [add_block] at this | exact this) GW105.out); have hn106_1 : ad106.block ≠ gb105 := Nat.ne_of_lt (Nat.lt_of_lt_of_le (by have := World.block_lt_of_cell? _ _ hx106_0; first | rwa [add_block] at this | exact this) GW105.out); have hn106_2 : ad106.block ≠ gb105 := Nat.ne_of_lt (Nat.lt_of_lt_of_le (by have := World.block_lt_of_cell? _ _ hx106_0; first | rwa [add_block] at this | exact this) GW105.out); have hn106_3 : ad106.block ≠ gb105 := Nat.ne_of_lt (Nat.lt_of_lt_of_le (by have := World.block_lt_of_cell? _ _ hx106_0; first | rwa [add_block] at this | exact this) GW105.out); have hn106_4 : ad106.block ≠ gb105 := Nat.ne_of_lt (Nat.lt_of_lt_of_le (by have := World.block_lt_of_cell? _ _ hx106_0; first | rwa [add_block] at this | exact this) GW105.out); have hn106_5 : ad106.block ≠ gb105 := Nat.ne_of_lt (Nat.lt_of_lt_of_le (by have := World.block_lt_of_cell? _ _ hx106_0; first | rwa [add_block] at this | exact this) GW105.out); have hn106_6 : ad106.block ≠ gb105 := Nat.ne_of_lt (Nat.lt_of_lt_of_le (by have := World.block_lt_of_cell? _ _ hx106_0; first | rwa [add_block] at this | exact this) GW105.out); replace hx106_0 := zx HB.out hx106_0; replace hx106_1 := zx HB.out hx106_1; replace hx106_2 := zx HB.out hx106_2; replace hx106_3 := zx HB.out hx106_3; replace hx106_4 := zx HB.out hx106_4; replace hx106_5 := zx HB.out hx106_5; replace hx106_6 := zx HB.out hx106_6; have HR106_6 := zqj hi106_6; have HC106_6 := zqj hl106_6; clear hi106_6 hl106_6; replace hx106_0 := (cell_far (p := ⟨gb105, 0, none⟩) (zrn hn106_0) (.int .i64 ((rd_T58 l0 x17_1).f0))).trans hx106_0; replace hx106_1 := (cell_far (p := ⟨gb105, 0, none⟩) (zrn hn106_0) (.int .i64 ((rd_T58 l0 x17_1).f0))).trans hx106_1; replace hx106_2 := (cell_far (p := ⟨gb105, 0, none⟩) (zrn hn106_0) (.int .i64 ((rd_T58 l0 x17_1).f0))).trans hx106_2; replace hx106_3 := (cell_far (p := ⟨gb105, 0, none⟩) (zrn hn106_0) (.int .i64 ((rd_T58 l0 x17_1).f0))).trans hx106_3; replace hx106_4 := (cell_far (p := ⟨gb105, 0, none⟩) (zrn hn106_0) (.int .i64 ((rd_T58 l0 x17_1).f0))).trans hx106_4; replace hx106_5 := (cell_far (p := ⟨gb105, 0, none⟩) (zrn hn106_0) (.int .i64 ((rd_T58 l0 x17_1).f0))).trans hx106_5; replace hx106_6 := (cell_far (p := ⟨gb105, 0, none⟩) (zrn hn106_0) (.int .i64 ((rd_T58 l0 x17_1).f0))).trans hx106_6; replace hx106_0 := (cell_far (p := ⟨gb105, 1, none⟩) (zrn hn106_1) (.bool ((rd_T58 l0 x17_1).f1))).trans hx106_0; replace hx106_1 := (cell_far (p := ⟨gb105, 1, none⟩) (zrn hn106_1) (.bool ((rd_T58 l0 x17_1).f1))).trans hx106_1; replace hx106_2 := (cell_far (p := ⟨gb105, 1, none⟩) (zrn hn106_1) (.bool ((rd_T58 l0 x17_1).f1))).trans hx106_2; replace hx106_3 := (cell_far (p := ⟨gb105, 1, none⟩) (zrn hn106_1) (.bool ((rd_T58 l0 x17_1).f1))).trans hx106_3; replace hx106_4 := (cell_far (p := ⟨gb105, 1, none⟩) (zrn hn106_1) (.bool ((rd_T58 l0 x17_1).f1))).trans hx106_4; replace hx106_5 := (cell_far (p := ⟨gb105, 1, none⟩) (zrn hn106_1) (.bool ((rd_T58 l0 x17_1).f1))).trans hx106_5; replace hx106_6 := (cell_far (p := ⟨gb105, 1, none⟩) (zrn hn106_1) (.bool ((rd_T58 l0 x17_1).f1))).trans hx106_6; replace hx106_0 := (cell_far (p := ⟨gb105, 2, none⟩) (zrn hn106_2) (.int .i64 ((rd_T58 l0 x17_1).f2.f0))).trans hx106_0; replace hx106_1 := (cell_far (p := ⟨gb105, 2, none⟩) (zrn hn106_2) (.int .i64 ((rd_T58 l0 x17_1).f2.f0))).trans hx106_1; replace hx106_2 := (cell_far (p := ⟨gb105, 2, none⟩) (zrn hn106_2) (.int .i64 ((rd_T58 l0 x17_1).f2.f0))).trans hx106_2; replace hx106_3 := (cell_far (p := ⟨gb105, 2, none⟩) (zrn hn106_2) (.int .i64 ((rd_T58 l0 x17_1).f2.f0))).trans hx106_3; replace hx106_4 := (cell_far (p := ⟨gb105, 2, none⟩) (zrn hn106_2) (.int .i64 ((rd_T58 l0 x17_1).f2.f0))).trans hx106_4; replace hx106_5 := (cell_far (p := ⟨gb105, 2, none⟩) (zrn hn106_2) (.int .i64 ((rd_T58 l0 x17_1).f2.f0))).trans hx106_5; replace hx106_6 := (cell_far (p := ⟨gb105, 2, none⟩) (zrn hn106_2) (.int .i64 ((rd_T58 l0 x17_1).f2.f0))).trans hx106_6; replace hx106_0 := (cell_far (p := ⟨gb105, 3, none⟩) (zrn hn106_3) (.int .i64 ((rd_T58 l0 x17_1).f2.f1))).trans hx106_0; replace hx106_1 := (cell_far (p := ⟨gb105, 3, none⟩) (zrn hn106_3) (.int .i64 ((rd_T58 l0 x17_1).f2.f1))).trans hx106_1; replace hx106_2 := (cell_far (p := ⟨gb105, 3, none⟩) (zrn hn106_3) (.int .i64 ((rd_T58 l0 x17_1).f2.f1))).trans hx106_2; replace hx106_3 := (cell_far (p := ⟨gb105, 3, none⟩) (zrn hn106_3) (.int .i64 ((rd_T58 l0 x17_1).f2.f1))).trans hx106_3; replace hx106_4 := (cell_far (p := ⟨gb105, 3, none⟩) (zrn hn106_3) (.int .i64 ((rd_T58 l0 x17_1).f2.f1))).trans hx106_4; replace hx106_5 := (cell_far (p := ⟨gb105, 3, none⟩) (zrn hn106_3) (.int .i64 ((rd_T58 l0 x17_1).f2.f1))).trans hx106_5; replace hx106_6 := (cell_far (p := ⟨gb105, 3, none⟩) (zrn hn106_3) (.int .i64 ((rd_T58 l0 x17_1).f2.f1))).trans hx106_6; replace hx106_0 := (cell_far (p := ⟨gb105, 4, none⟩) (zrn hn106_4) (.int .i64 ((rd_T58 l0 x17_1).f2.f2))).trans hx106_0; replace hx106_1 := (cell_far (p := ⟨gb105, 4, none⟩) (zrn hn106_4) (.int .i64 ((rd_T58 l0 x17_1).f2.f2))).trans hx106_1; replace hx106_2 := (cell_far (p := ⟨gb105, 4, none⟩) (zrn hn106_4) (.int .i64 ((rd_T58 l0 x17_1).f2.f2))).trans hx106_2; replace hx106_3 := (cell_far (p := ⟨gb105, 4, none⟩) (zrn hn106_4) (.int .i64 ((rd_T58 l0 x17_1).f2.f2))).trans hx106_3; replace hx106_4 := (cell_far (p := ⟨gb105, 4, none⟩) (zrn hn106_4) (.int .i64 ((rd_T58 l0 x17_1).f2.f2))).trans hx106_4; replace hx106_5 := (cell_far (p := ⟨gb105, 4, none⟩) (zrn hn106_4) (.int .i64 ((rd_T58 l0 x17_1).f2.f2))).trans hx106_5; replace hx106_6 := (cell_far (p := ⟨gb105, 4, none⟩) (zrn hn106_4) (.int .i64 ((rd_T58 l0 x17_1).f2.f2))).trans hx106_6; replace hx106_0 := (cell_far (p := ⟨gb105, 5, none⟩) (zrn hn106_5) (.string ((rd_T58 l0 x17_1).f2.f3))).trans hx106_0; replace hx106_1 := (cell_far (p := ⟨gb105, 5, none⟩) (zrn hn106_5) (.string ((rd_T58 l0 x17_1).f2.f3))).trans hx106_1; replace hx106_2 := (cell_far (p := ⟨gb105, 5, none⟩) (zrn hn106_5) (.string ((rd_T58 l0 x17_1).f2.f3))).trans hx106_2; replace hx106_3 := (cell_far (p := ⟨gb105, 5, none⟩) (zrn hn106_5) (.string ((rd_T58 l0 x17_1).f2.f3))).trans hx106_3; replace hx106_4 := (cell_far (p := ⟨gb105, 5, none⟩) (zrn hn106_5) (.string ((rd_T58 l0 x17_1).f2.f3))).trans hx106_4; replace hx106_5 := (cell_far (p := ⟨gb105, 5, none⟩) (zrn hn106_5) (.string ((rd_T58 l0 x17_1).f2.f3))).trans hx106_5; replace hx106_6 := (cell_far (p := ⟨gb105, 5, none⟩) (zrn hn106_5) (.string ((rd_T58 l0 x17_1).f2.f3))).trans hx106_6; replace hx106_0 := (cell_far (p := ⟨gb105, 6, none⟩) (zrn hn106_6) (.slice A104_6 ((rd_T58 l0 x17_1).f2.f4).length c104_6)).trans hx106_0; replace hx106_1 := (cell_far (p := ⟨gb105, 6, none⟩) (zrn hn106_6) (.slice A104_6 ((rd_T58 l0 x17_1).f2.f4).length c104_6)).trans hx106_1; replace hx106_2 := (cell_far (p := ⟨gb105, 6, none⟩) (zrn hn106_6) (.slice A104_6 ((rd_T58 l0 x17_1).f2.f4).length c104_6)).trans hx106_2; replace hx106_3 := (cell_far (p := ⟨gb105, 6, none⟩) (zrn hn106_6) (.slice A104_6 ((rd_T58 l0 x17_1).f2.f4).length c104_6)).trans hx106_3; replace hx106_4 := (cell_far (p := ⟨gb105, 6, none⟩) (zrn hn106_6) (.slice A104_6 ((rd_T58 l0 x17_1).f2.f4).length c104_6)).trans hx106_4; replace hx106_5 := (cell_far (p := ⟨gb105, 6, none⟩) (zrn hn106_6) (.slice A104_6 ((rd_T58 l0 x17_1).f2.f4).length c104_6)).trans hx106_5; replace hx106_6 := (cell_far (p := ⟨gb105, 6, none⟩) (zrn hn106_6) (.slice A104_6 ((rd_T58 l0 x17_1).f2.f4).length c104_6)).trans hx106_6; clear hn106_0; clear hn106_1; clear hn106_2; clear hn106_3; clear hn106_4; clear hn106_5; clear hn106_6; replace p106 := eq_true p106; replace q106 := eq_true q106) | ((with_reducible refine gate_dst (N := 9) rfl ?_); refine box_event ?hg (N := 9) ?hd (cs := #[.int .i64 0, .bool false, .int .i64 0, .int .i64 0, .int .i64 0, .string (⟨#[]⟩ : ByteArray), .slice none 0 0]) (t := 58) ?hr ?_; (case hd => rfl); (case hg => rfl); (case hr => exact zrr); intro gb107 hg w13 hbox hb; have n0_ := zqj (blk_below (g := gb105) (o := .cells #[.int .i64 ((rd_T58 l0 x17_1).f0), .bool ((rd_T58 l0 x17_1).f1), .int .i64 ((rd_T58 l0 x17_1).f2.f0), .int .i64 ((rd_T58 l0 x17_1).f2.f1), .int .i64 ((rd_T58 l0 x17_1).f2.f2), .string ((rd_T58 l0 x17_1).f2.f3), .slice A104_6 ((rd_T58 l0 x17_1).f2.f4).length c104_6] 58 (0, 0)) (by (with_reducible repeat (first | refine zqa ?_ _ | refine zqb ?_ | refine zqc ?_ _)); refine blk_put (cs := #[.int .i64 ((rd_T58 l0 x17_1).f0), .bool ((rd_T58 l0 x17_1).f1), .int .i64 ((rd_T58 l0 x17_1).f2.f0), .int .i64 ((rd_T58 l0 x17_1).f2.f1), .int .i64 ((rd_T58 l0 x17_1).f2.f2), .string ((rd_T58 l0 x17_1).f2.f3), .slice none 0 0]) ?_ 6 _ rfl; (with_reducible repeat (first | refine zqa ?_ _ | refine zqb ?_ | refine zqc ?_ _)); refine blk_put (cs := #[.int .i64 ((rd_T58 l0 x17_1).f0), .bool ((rd_T58 l0 x17_1).f1), .int .i64 ((rd_T58 l0 x17_1).f2.f0), .int .i64 ((rd_T58 l0 x17_1).f2.f1), .int .i64 ((rd_T58 l0 x17_1).f2.f2), .string (⟨#[]⟩ : ByteArray), .slice none 0 0]) ?_ 5 _ rfl; (with_reducible repeat (first | refine zqa ?_ _ | refine zqb ?_ | refine zqc ?_ _)); refine blk_put (cs := #[.int .i64 ((rd_T58 l0 x17_1).f0), .bool ((rd_T58 l0 x17_1).f1), .int .i64 ((rd_T58 l0 x17_1).f2.f0), .int .i64 ((rd_T58 l0 x17_1).f2.f1), .int .i64 0, .string (⟨#[]⟩ : ByteArray), .slice none 0 0]) ?_ 4 _ rfl; (with_reducible repeat (first | refine zqa ?_ _ | refine zqb ?_ | refine zqc ?_ _)); refine blk_put (cs := #[.int .i64 ((rd_T58 l0 x17_1).f0), .bool ((rd_T58 l0 x17_1).f1), .int .i64 ((rd_T58 l0 x17_1).f2.f0), .int .i64 0, .int .i64 0, .string (⟨#[]⟩ : ByteArray), .slice none 0 0]) ?_ 3 _ rfl; (with_reducible repeat (first | refine zqa ?_ _ | refine zqb ?_ | refine zqc ?_ _)); refine blk_put (cs := #[.int .i64 ((rd_T58 l0 x17_1).f0), .bool ((rd_T58 l0 x17_1).f1), .int .i64 0, .int .i64 0, .int .i64 0, .string (⟨#[]⟩ : ByteArray), .slice none 0 0]) ?_ 2 _ rfl; (with_reducible repeat (first | refine zqa ?_ _ | refine zqb ?_ | refine zqc ?_ _)); refine blk_put (cs := #[.int .i64 ((rd_T58 l0 x17_1).f0), .bool false, .int .i64 0, .int .i64 0, .int .i64 0, .string (⟨#[]⟩ : ByteArray), .slice none 0 0]) ?_ 1 _ rfl; (with_reducible repeat (first | refine zqa ?_ _ | refine zqb ?_ | refine zqc ?_ _)); refine blk_put (cs := #[.int .i64 0, .bool false, .int .i64 0, .int .i64 0, .int .i64 0, .string (⟨#[]⟩ : ByteArray), .slice none 0 0]) ?_ 0 _ rfl; (with_reducible repeat (first | refine zqa ?_ _ | refine zqb ?_ | refine zqc ?_ _)); exact BK105.out) hb); have n1_ := zqj (below_step (zrd1 HB.out GE105.out) hb); have n2_ := zqj (hbox); have n3_ := zqj ((by rw [hg]; exact (below_size (zrd1 HB.out GE105.out)) : w.heap.size ≤ gb107)); have n4_ := zqj ((by rw [hg]; exact (below_size (zrd1 HB.out GE105.out)) : w.heap.size ≤ gb107)); have n5_ := zqj ((by rw [hg]; exact Nat.ne_of_lt (blk_lt (g := gb105) (o := .cells #[.int .i64 ((rd_T58 l0 x17_1).f0), .bool ((rd_T58 l0 x17_1).f1), .int .i64 ((rd_T58 l0 x17_1).f2.f0), .int .i64 ((rd_T58 l0 x17_1).f2.f1), .int .i64 ((rd_T58 l0 x17_1).f2.f2), .string ((rd_T58 l0 x17_1).f2.f3), .slice A104_6 ((rd_T58 l0 x17_1).f2.f4).length c104_6] 58 (0, 0)) (by (with_reducible repeat (first | refine zqa ?_ _ | refine zqb ?_ | refine zqc ?_ _)); refine blk_put (cs := #[.int .i64 ((rd_T58 l0 x17_1).f0), .bool ((rd_T58 l0 x17_1).f1), .int .i64 ((rd_T58 l0 x17_1).f2.f0), .int .i64 ((rd_T58 l0 x17_1).f2.f1), .int .i64 ((rd_T58 l0 x17_1).f2.f2), .string ((rd_T58 l0 x17_1).f2.f3), .slice none 0 0]) ?_ 6 _ rfl; (with_reducible repeat (first | refine zqa ?_ _ | refine zqb ?_ | refine zqc ?_ _)); refine blk_put (cs := #[.int .i64 ((rd_T58 l0 x17_1).f0), .bool ((rd_T58 l0 x17_1).f1), .int .i64 ((rd_T58 l0 x17_1).f2.f0), .int .i64 ((rd_T58 l0 x17_1).f2.f1), .int .i64 ((rd_T58 l0 x17_1).f2.f2), .string (⟨#[]⟩ : ByteArray), .slice none 0 0]) ?_ 5 _ rfl; (with_reducible repeat (first | refine zqa ?_ _ | refine zqb ?_ | refine zqc ?_ _)); refine blk_put (cs := #[.int .i64 ((rd_T58 l0 x17_1).f0), .bool ((rd_T58 l0 x17_1).f1), .int .i64 ((rd_T58 l0 x17_1).f2.f0), .int .i64 ((rd_T58 l0 x17_1).f2.f1), .int .i64 0, .string (⟨#[]⟩ : ByteArray), .slice none 0 0]) ?_ 4 _ rfl; (with_reducible repeat (first | refine zqa ?_ _ | refine zqb ?_ | refine zqc ?_ _)); refine blk_put (cs := #[.int .i64 ((rd_T58 l0 x17_1).f0), .bool ((rd_T58 l0 x17_1).f1), .int .i64 ((rd_T58 l0 x17_1).f2.f0), .int .i64 0, .int .i64 0, .string (⟨#[]⟩ : ByteArray), .slice none 0 0]) ?_ 3 _ rfl; (with_reducible repeat (first | refine zqa ?_ _ | refine zqb ?_ | refine zqc ?_ _)); refine blk_put (cs := #[.int .i64 ((rd_T58 l0 x17_1).f0), .bool ((rd_T58 l0 x17_1).f1), .int .i64 0, .int .i64 0, .int .i64 0, .string (⟨#[]⟩ : ByteArray), .slice none 0 0]) ?_ 2 _ rfl; (with_reducible repeat (first | refine zqa ?_ _ | refine zqb ?_ | refine zqc ?_ _)); refine blk_put (cs := #[.int .i64 ((rd_T58 l0 x17_1).f0), .bool false, .int .i64 0, .int .i64 0, .int .i64 0, .string (⟨#[]⟩ : ByteArray), .slice none 0 0]) ?_ 1 _ rfl; (with_reducible repeat (first | refine zqa ?_ _ | refine zqb ?_ | refine zqc ?_ _)); refine blk_put (cs := #[.int .i64 0, .bool false, .int .i64 0, .int .i64 0, .int .i64 0, .string (⟨#[]⟩ : ByteArray), .slice none 0 0]) ?_ 0 _ rfl; (with_reducible repeat (first | refine zqa ?_ _ | refine zqb ?_ | refine zqc ?_ _)); exact BK105.out)) : gb105 ≠ gb107)); have n6_ := zqj ((by rw [hg]; exact Nat.ne_of_gt (blk_lt (g := gb105) (o := .cells #[.int .i64 ((rd_T58 l0 x17_1).f0), .bool ((rd_T58 l0 x17_1).f1), .int .i64 ((rd_T58 l0 x17_1).f2.f0), .int .i64 ((rd_T58 l0 x17_1).f2.f1), .int .i64 ((rd_T58 l0 x17_1).f2.f2), .string ((rd_T58 l0 x17_1).f2.f3), .slice A104_6 ((rd_T58 l0 x17_1).f2.f4).length c104_6] 58 (0, 0)) (by (with_reducible repeat (first | refine zqa ?_ _ | refine zqb ?_ | refine zqc ?_ _)); refine blk_put (cs := #[.int .i64 ((rd_T58 l0 x17_1).f0), .bool ((rd_T58 l0 x17_1).f1), .int .i64 ((rd_T58 l0 x17_1).f2.f0), .int .i64 ((rd_T58 l0 x17_1).f2.f1), .int .i64 ((rd_T58 l0 x17_1).f2.f2), .string ((rd_T58 l0 x17_1).f2.f3), .slice none 0 0]) ?_ 6 _ rfl; (with_reducible repeat (first | refine zqa ?_ _ | refine zqb ?_ | refine zqc ?_ _)); refine blk_put (cs := #[.int .i64 ((rd_T58 l0 x17_1).f0), .bool ((rd_T58 l0 x17_1).f1), .int .i64 ((rd_T58 l0 x17_1).f2.f0), .int .i64 ((rd_T58 l0 x17_1).f2.f1), .int .i64 ((rd_T58 l0 x17_1).f2.f2), .string (⟨#[]⟩ : ByteArray), .slice none 0 0]) ?_ 5 _ rfl; (with_reducible repeat (first | refine zqa ?_ _ | refine zqb ?_ | refine zqc ?_ _)); refine blk_put (cs := #[.int .i64 ((rd_T58 l0 x17_1).f0), .bool ((rd_T58 l0 x17_1).f1), .int .i64 ((rd_T58 l0 x17_1).f2.f0), .int .i64 ((rd_T58 l0 x17_1).f2.f1), .int .i64 0, .string (⟨#[]⟩ : ByteArray), .slice none 0 0]) ?_ 4 _ rfl; (with_reducible repeat (first | refine zqa ?_ _ | refine zqb ?_ | refine zqc ?_ _)); refine blk_put (cs := #[.int .i64 ((rd_T58 l0 x17_1).f0), .bool ((rd_T58 l0 x17_1).f1), .int .i64 ((rd_T58 l0 x17_1).f2.f0), .int .i64 0, .int .i64 0, .string (⟨#[]⟩ : ByteArray), .slice none 0 0]) ?_ 3 _ rfl; (with_reducible repeat (first | refine zqa ?_ _ | refine zqb ?_ | refine zqc ?_ _)); refine blk_put (cs := #[.int .i64 ((rd_T58 l0 x17_1).f0), .bool ((rd_T58 l0 x17_1).f1), .int .i64 0, .int .i64 0, .int .i64 0, .string (⟨#[]⟩ : ByteArray), .slice none 0 0]) ?_ 2 _ rfl; (with_reducible repeat (first | refine zqa ?_ _ | refine zqb ?_ | refine zqc ?_ _)); refine blk_put (cs := #[.int .i64 ((rd_T58 l0 x17_1).f0), .bool false, .int .i64 0, .int .i64 0, .int .i64 0, .string (⟨#[]⟩ : ByteArray), .slice none 0 0]) ?_ 1 _ rfl; (with_reducible repeat (first | refine zqa ?_ _ | refine zqb ?_ | refine zqc ?_ _)); refine blk_put (cs := #[.int .i64 0, .bool false, .int .i64 0, .int .i64 0, .int .i64 0, .string (⟨#[]⟩ : ByteArray), .slice none 0 0]) ?_ 0 _ rfl; (with_reducible repeat (first | refine zqa ?_ _ | refine zqb ?_ | refine zqc ?_ _)); exact BK105.out)) : gb107 ≠ gb105)); clear BK105; clear HB; have BK105 := n0_; have HB := n1_; have BK107 := n2_; have GW107 := n3_; have GE107 := n4_; have NB105_107 := n5_; have NB107_105 := n6_; clear n0_ n1_ n2_ n3_ n4_ n5_ n6_; clear hb hbox hg; have hnb14 := NB107_105.out; have hnc14 := NB105_107.out; obtain ⟨hcz15_0, hcz15_1, hcz15_2, hcz15_3, hcz15_4, hcz15_5, hcz15_6⟩ := zc7 BK107.out; obtain ⟨hfz15_0, hfz15_1, hfz15_2, hfz15_3, hfz15_4, hfz15_5, hfz15_6⟩ := zf7 BK107.out; obtain ⟨hcz16_0, hcz16_1, hcz16_2, hcz16_3, hcz16_4, hcz16_5, hcz16_6⟩ := zc7 BK105.out; obtain ⟨hfz16_0, hfz16_1, hfz16_2, hfz16_3, hfz16_4, hfz16_5, hfz16_6⟩ := zf7 BK105.out) | ((with_reducible refine gate_calleeT rfl ?_); refine goesLT_ (some 29) rfl rfl Try.func44 (by kernel_rfl) rfl #[.agg #[.int .i64 ((rd_T58 l0 x17_1).f0), .bool ((rd_T58 l0 x17_1).f1), .int .i64 ((rd_T58 l0 x17_1).f2.f0), .int .i64 ((rd_T58 l0 x17_1).f2.f1), .int .i64 ((rd_T58 l0 x17_1).f2.f2), .string ((rd_T58 l0 x17_1).f2.f3), .slice A104_6 ((rd_T58 l0 x17_1).f2.f4).length c104_6], .agg #[.int .i64 ((rd_T58 l1 x17_1).f0), .bool ((rd_T58 l1 x17_1).f1), .int .i64 ((rd_T58 l1 x17_1).f2.f0), .int .i64 ((rd_T58 l1 x17_1).f2.f1), .int .i64 ((rd_T58 l1 x17_1).f2.f2), .string ((rd_T58 l1 x17_1).f2.f3), .slice A106_6 ((rd_T58 l1 x17_1).f2.f4).length c106_6]] rfl (by rfl) zra ?_; (with_reducible refine (store_Same_1.calls k1 ((rd_T58 l0 x17_1).f0) ((rd_T58 l0 x17_1).f1) ((rd_T58 l0 x17_1).f2.f0) ((rd_T58 l0 x17_1).f2.f1) ((rd_T58 l0 x17_1).f2.f2) ((rd_T58 l0 x17_1).f2.f3) _ _ ((rd_T58 l0 x17_1).f2.f4) ((rd_T58 l1 x17_1).f0) ((rd_T58 l1 x17_1).f1) ((rd_T58 l1 x17_1).f2.f0) ((rd_T58 l1 x17_1).f2.f1) ((rd_T58 l1 x17_1).f2.f2) ((rd_T58 l1 x17_1).f2.f3) _ _ ((rd_T58 l1 x17_1).f2.f4) true _ ?side1 ?side2 ?side3 ?side4 A9.out).mono ?_); (case side1 => exact Kd.C_below HR104_6.out (zrd2 HB.out GE105.out GE107.out)); (case side2 => exact HC104_6.out); (case side3 => exact Kd.C_below HR106_6.out (zrd2 HB.out GE105.out GE107.out)); (case side4 => exact HC106_6.out); rintro e w17 ⟨rfl, hb⟩; refine ⟨_, rfl, ?_⟩; replace BK105 := zqj (blk_below (g := gb105) (o := .cells #[.int .i64 ((rd_T58 l0 x17_1).f0), .bool ((rd_T58 l0 x17_1).f1), .int .i64 ((rd_T58 l0 x17_1).f2.f0), .int .i64 ((rd_T58 l0 x17_1).f2.f1), .int .i64 ((rd_T58 l0 x17_1).f2.f2), .string ((rd_T58 l0 x17_1).f2.f3), .slice A104_6 ((rd_T58 l0 x17_1).f2.f4).length c104_6] 58 (0, 0)) (by (iterate 7 ((with_reducible repeat (first | refine zqa ?_ _ | refine zqb ?_ | refine zqc ?_ _)); refine blk_far ?_ NB105_107.out _)); (with_reducible repeat (first | refine zqa ?_ _ | refine zqb ?_ | refine zqc ?_ _)); exact BK105.out) hb); replace BK107 := zqj (blk_below (g := gb107) (o := .cells #[.int .i64 ((rd_T58 l1 x17_1).f0), .bool ((rd_T58 l1 x17_1).f1), .int .i64 ((rd_T58 l1 x17_1).f2.f0), .int .i64 ((rd_T58 l1 x17_1).f2.f1), .int .i64 ((rd_T58 l1 x17_1).f2.f2), .string ((rd_T58 l1 x17_1).f2.f3), .slice A106_6 ((rd_T58 l1 x17_1).f2.f4).length c106_6] 58 (0, 0)) (by (with_reducible repeat (first | refine zqa ?_ _ | refine zqb ?_ | refine zqc ?_ _)); refine blk_put (cs := #[.int .i64 ((rd_T58 l1 x17_1).f0), .bool ((rd_T58 l1 x17_1).f1), .int .i64 ((rd_T58 l1 x17_1).f2.f0), .int .i64 ((rd_T58 l1 x17_1).f2.f1), .int .i64 ((rd_T58 l1 x17_1).f2.f2), .string ((rd_T58 l1 x17_1).f2.f3), .slice none 0 0]) ?_ 6 _ rfl; (with_reducible repeat (first | refine zqa ?_ _ | refine zqb ?_ | refine zqc ?_ _)); refine blk_put (cs := #[.int .i64 ((rd_T58 l1 x17_1).f0), .bool ((rd_T58 l1 x17_1).f1), .int .i64 ((rd_T58 l1 x17_1).f2.f0), .int .i64 ((rd_T58 l1 x17_1).f2.f1), .int .i64 ((rd_T58 l1 x17_1).f2.f2), .string (⟨#[]⟩ : ByteArray), .slice none 0 0]) ?_ 5 _ rfl; (with_reducible repeat (first | refine zqa ?_ _ | refine zqb ?_ | refine zqc ?_ _)); refine blk_put (cs := #[.int .i64 ((rd_T58 l1 x17_1).f0), .bool ((rd_T58 l1 x17_1).f1), .int .i64 ((rd_T58 l1 x17_1).f2.f0), .int .i64 ((rd_T58 l1 x17_1).f2.f1), .int .i64 0, .string (⟨#[]⟩ : ByteArray), .slice none 0 0]) ?_ 4 _ rfl; (with_reducible repeat (first | refine zqa ?_ _ | refine zqb ?_ | refine zqc ?_ _)); refine blk_put (cs := #[.int .i64 ((rd_T58 l1 x17_1).f0), .bool ((rd_T58 l1 x17_1).f1), .int .i64 ((rd_T58 l1 x17_1).f2.f0), .int .i64 0, .int .i64 0, .string (⟨#[]⟩ : ByteArray), .slice none 0 0]) ?_ 3 _ rfl; (with_reducible repeat (first | refine zqa ?_ _ | refine zqb ?_ | refine zqc ?_ _)); refine blk_put (cs := #[.int .i64 ((rd_T58 l1 x17_1).f0), .bool ((rd_T58 l1 x17_1).f1), .int .i64 0, .int .i64 0, .int .i64 0, .string (⟨#[]⟩ : ByteArray), .slice none 0 0]) ?_ 2 _ rfl; (with_reducible repeat (first | refine zqa ?_ _ | refine zqb ?_ | refine zqc ?_ _)); refine blk_put (cs := #[.int .i64 ((rd_T58 l1 x17_1).f0), .bool false, .int .i64 0, .int .i64 0, .int .i64 0, .string (⟨#[]⟩ : ByteArray), .slice none 0 0]) ?_ 1 _ rfl; (with_reducible repeat (first | refine zqa ?_ _ | refine zqb ?_ | refine zqc ?_ _)); refine blk_put (cs := #[.int .i64 0, .bool false, .int .i64 0, .int .i64 0, .int .i64 0, .string (⟨#[]⟩ : ByteArray), .slice none 0 0]) ?_ 0 _ rfl; (with_reducible repeat (first | refine zqa ?_ _ | refine zqb ?_ | refine zqc ?_ _)); exact BK107.out) hb); replace HB := zqj (below_step (zrd2 HB.out GE105.out GE107.out) hb); (try clear hb); (try clear hb2); (try clear hk); (try clear hi)))
         go_roundg k1
         case measure => have := HK1.out; omega
         case rel => exact ⟨(wrap64 (x17_1 + 1)), zrt, H', ⟨by have := HK1.out; omega⟩, ⟨by repeat (first | (with_reducible first | exact HB.out | apply zqg | apply zqe | apply zqf | refine zqd ?_ GE105.out | refine zqd ?_ GE107.out) | exact HB.out)⟩⟩
        ·replace c10 := Bool.eq_false_iff.mpr c10
         subst c10
         have H1 : (some false) = some r := by rw [if_neg (show ¬ (false = true) by decide)] at H; exact H
         clear H
         have H := H1
         clear H1
         obtain rfl := Option.some.inj H
         have p104 : 0 ≤ (x17_1 : Int) := zqh zrs
         have q104 : x17_1 < (l0.length : Int) := zqh zrs
         obtain ⟨ad104, A104_6, c104_6, e104, hx104_0, hx104_1, hx104_2, hx104_3, hx104_4, hx104_5, hx104_6, hl104_6, hi104_6⟩ := at_T58 HR0.out x17_1 p104 q104
         cases e104
         replace hx104_0 := zx HB.out hx104_0
         replace hx104_1 := zx HB.out hx104_1
         replace hx104_2 := zx HB.out hx104_2
         replace hx104_3 := zx HB.out hx104_3
         replace hx104_4 := zx HB.out hx104_4
         replace hx104_5 := zx HB.out hx104_5
         replace hx104_6 := zx HB.out hx104_6
         have HR104_6 := zqj hi104_6
         have HC104_6 := zqj hl104_6
         clear hi104_6 hl104_6
         replace p104 := eq_true p104
         replace q104 := eq_true q104
         go_wp2_with (first | ((with_reducible refine gate_dst (N := 8) rfl ?_); refine box_event ?hg (N := 8) ?hd (cs := #[.int .i64 0, .bool false, .int .i64 0, .int .i64 0, .int .i64 0, .string (⟨#[]⟩ : ByteArray), .slice none 0 0]) (t := 58) ?hr ?_; (case hd => rfl); (case hg => rfl); (case hr => exact zrr); intro gb105 hg w18 hbox hb; have n0_ := zqj (below_step (zrd0 HB.out) hb); have n1_ := zqj (hbox); have n2_ : Aside0 (w.heap.size ≤ gb105) := ⟨by rw [hg]; exact below_size (zrd0 HB.out)⟩; have n3_ := n2_; clear HB; have HB := n0_; have BK105 := n1_; have GW105 := n2_; have GE105 := n3_; clear n0_ n1_ n2_ n3_; clear hb hbox hg; obtain ⟨hcz19_0, hcz19_1, hcz19_2, hcz19_3, hcz19_4, hcz19_5, hcz19_6⟩ := zc7 BK105.out; obtain ⟨hfz19_0, hfz19_1, hfz19_2, hfz19_3, hfz19_4, hfz19_5, hfz19_6⟩ := zf7 BK105.out; have p106 : 0 ≤ (x17_1 : Int) := zqh zrs; have q106 : x17_1 < (l1.length : Int) := zqh zrs; obtain ⟨ad106, A106_6, c106_6, e106, hx106_0, hx106_1, hx106_2, hx106_3, hx106_4, hx106_5, hx106_6, hl106_6, hi106_6⟩ := at_T58 HR1.out x17_1 p106 q106; cases e106; have hn106_0 : ad106.block ≠ gb105 := Nat.ne_of_lt (Nat.lt_of_lt_of_le (by have := World.block_lt_of_cell? _ _ hx106_0; first | rwa [add_block] at this | exact this) GW105.out); have hn106_1 : ad106.block ≠ gb105 := Nat.ne_of_lt (Nat.lt_of_lt_of_le (by have := World.block_lt_of_cell? _ _ hx106_0; first | rwa [add_block] at this | exact this) GW105.out); have hn106_2 : ad106.block ≠ gb105 := Nat.ne_of_lt (Nat.lt_of_lt_of_le (by have := World.block_lt_of_cell? _ _ hx106_0; first | rwa [add_block] at this | exact this) GW105.out); have hn106_3 : ad106.block ≠ gb105 := Nat.ne_of_lt (Nat.lt_of_lt_of_le (by have := World.block_lt_of_cell? _ _ hx106_0; first | rwa [add_block] at this | exact this) GW105.out); have hn106_4 : ad106.block ≠ gb105 := Nat.ne_of_lt (Nat.lt_of_lt_of_le (by have := World.block_lt_of_cell? _ _ hx106_0; first | rwa [add_block] at this | exact this) GW105.out); have hn106_5 : ad106.block ≠ gb105 := Nat.ne_of_lt (Nat.lt_of_lt_of_le (by have := World.block_lt_of_cell? _ _ hx106_0; first | rwa [add_block] at this | exact this) GW105.out); have hn106_6 : ad106.block ≠ gb105 := Nat.ne_of_lt (Nat.lt_of_lt_of_le (by have := World.block_lt_of_cell? _ _ hx106_0; first | rwa [add_block] at this | exact this) GW105.out); replace hx106_0 := zx HB.out hx106_0; replace hx106_1 := zx HB.out hx106_1; replace hx106_2 := zx HB.out hx106_2; replace hx106_3 := zx HB.out hx106_3; replace hx106_4 := zx HB.out hx106_4; replace hx106_5 := zx HB.out hx106_5; replace hx106_6 := zx HB.out hx106_6; have HR106_6 := zqj hi106_6; have HC106_6 := zqj hl106_6; clear hi106_6 hl106_6; replace hx106_0 := (cell_far (p := ⟨gb105, 0, none⟩) (zrn hn106_0) (.int .i64 ((rd_T58 l0 x17_1).f0))).trans hx106_0; replace hx106_1 := (cell_far (p := ⟨gb105, 0, none⟩) (zrn hn106_0) (.int .i64 ((rd_T58 l0 x17_1).f0))).trans hx106_1; replace hx106_2 := (cell_far (p := ⟨gb105, 0, none⟩) (zrn hn106_0) (.int .i64 ((rd_T58 l0 x17_1).f0))).trans hx106_2; replace hx106_3 := (cell_far (p := ⟨gb105, 0, none⟩) (zrn hn106_0) (.int .i64 ((rd_T58 l0 x17_1).f0))).trans hx106_3; replace hx106_4 := (cell_far (p := ⟨gb105, 0, none⟩) (zrn hn106_0) (.int .i64 ((rd_T58 l0 x17_1).f0))).trans hx106_4; replace hx106_5 := (cell_far (p := ⟨gb105, 0, none⟩) (zrn hn106_0) (.int .i64 ((rd_T58 l0 x17_1).f0))).trans hx106_5; replace hx106_6 := (cell_far (p := ⟨gb105, 0, none⟩) (zrn hn106_0) (.int .i64 ((rd_T58 l0 x17_1).f0))).trans hx106_6; replace hx106_0 := (cell_far (p := ⟨gb105, 1, none⟩) (zrn hn106_1) (.bool ((rd_T58 l0 x17_1).f1))).trans hx106_0; replace hx106_1 := (cell_far (p := ⟨gb105, 1, none⟩) (zrn hn106_1) (.bool ((rd_T58 l0 x17_1).f1))).trans hx106_1; replace hx106_2 := (cell_far (p := ⟨gb105, 1, none⟩) (zrn hn106_1) (.bool ((rd_T58 l0 x17_1).f1))).trans hx106_2; replace hx106_3 := (cell_far (p := ⟨gb105, 1, none⟩) (zrn hn106_1) (.bool ((rd_T58 l0 x17_1).f1))).trans hx106_3; replace hx106_4 := (cell_far (p := ⟨gb105, 1, none⟩) (zrn hn106_1) (.bool ((rd_T58 l0 x17_1).f1))).trans hx106_4; replace hx106_5 := (cell_far (p := ⟨gb105, 1, none⟩) (zrn hn106_1) (.bool ((rd_T58 l0 x17_1).f1))).trans hx106_5; replace hx106_6 := (cell_far (p := ⟨gb105, 1, none⟩) (zrn hn106_1) (.bool ((rd_T58 l0 x17_1).f1))).trans hx106_6; replace hx106_0 := (cell_far (p := ⟨gb105, 2, none⟩) (zrn hn106_2) (.int .i64 ((rd_T58 l0 x17_1).f2.f0))).trans hx106_0; replace hx106_1 := (cell_far (p := ⟨gb105, 2, none⟩) (zrn hn106_2) (.int .i64 ((rd_T58 l0 x17_1).f2.f0))).trans hx106_1; replace hx106_2 := (cell_far (p := ⟨gb105, 2, none⟩) (zrn hn106_2) (.int .i64 ((rd_T58 l0 x17_1).f2.f0))).trans hx106_2; replace hx106_3 := (cell_far (p := ⟨gb105, 2, none⟩) (zrn hn106_2) (.int .i64 ((rd_T58 l0 x17_1).f2.f0))).trans hx106_3; replace hx106_4 := (cell_far (p := ⟨gb105, 2, none⟩) (zrn hn106_2) (.int .i64 ((rd_T58 l0 x17_1).f2.f0))).trans hx106_4; replace hx106_5 := (cell_far (p := ⟨gb105, 2, none⟩) (zrn hn106_2) (.int .i64 ((rd_T58 l0 x17_1).f2.f0))).trans hx106_5; replace hx106_6 := (cell_far (p := ⟨gb105, 2, none⟩) (zrn hn106_2) (.int .i64 ((rd_T58 l0 x17_1).f2.f0))).trans hx106_6; replace hx106_0 := (cell_far (p := ⟨gb105, 3, none⟩) (zrn hn106_3) (.int .i64 ((rd_T58 l0 x17_1).f2.f1))).trans hx106_0; replace hx106_1 := (cell_far (p := ⟨gb105, 3, none⟩) (zrn hn106_3) (.int .i64 ((rd_T58 l0 x17_1).f2.f1))).trans hx106_1; replace hx106_2 := (cell_far (p := ⟨gb105, 3, none⟩) (zrn hn106_3) (.int .i64 ((rd_T58 l0 x17_1).f2.f1))).trans hx106_2; replace hx106_3 := (cell_far (p := ⟨gb105, 3, none⟩) (zrn hn106_3) (.int .i64 ((rd_T58 l0 x17_1).f2.f1))).trans hx106_3; replace hx106_4 := (cell_far (p := ⟨gb105, 3, none⟩) (zrn hn106_3) (.int .i64 ((rd_T58 l0 x17_1).f2.f1))).trans hx106_4; replace hx106_5 := (cell_far (p := ⟨gb105, 3, none⟩) (zrn hn106_3) (.int .i64 ((rd_T58 l0 x17_1).f2.f1))).trans hx106_5; replace hx106_6 := (cell_far (p := ⟨gb105, 3, none⟩) (zrn hn106_3) (.int .i64 ((rd_T58 l0 x17_1).f2.f1))).trans hx106_6; replace hx106_0 := (cell_far (p := ⟨gb105, 4, none⟩) (zrn hn106_4) (.int .i64 ((rd_T58 l0 x17_1).f2.f2))).trans hx106_0; replace hx106_1 := (cell_far (p := ⟨gb105, 4, none⟩) (zrn hn106_4) (.int .i64 ((rd_T58 l0 x17_1).f2.f2))).trans hx106_1; replace hx106_2 := (cell_far (p := ⟨gb105, 4, none⟩) (zrn hn106_4) (.int .i64 ((rd_T58 l0 x17_1).f2.f2))).trans hx106_2; replace hx106_3 := (cell_far (p := ⟨gb105, 4, none⟩) (zrn hn106_4) (.int .i64 ((rd_T58 l0 x17_1).f2.f2))).trans hx106_3; replace hx106_4 := (cell_far (p := ⟨gb105, 4, none⟩) (zrn hn106_4) (.int .i64 ((rd_T58 l0 x17_1).f2.f2))).trans hx106_4; replace hx106_5 := (cell_far (p := ⟨gb105, 4, none⟩) (zrn hn106_4) (.int .i64 ((rd_T58 l0 x17_1).f2.f2))).trans hx106_5; replace hx106_6 := (cell_far (p := ⟨gb105, 4, none⟩) (zrn hn106_4) (.int .i64 ((rd_T58 l0 x17_1).f2.f2))).trans hx106_6; replace hx106_0 := (cell_far (p := ⟨gb105, 5, none⟩) (zrn hn106_5) (.string ((rd_T58 l0 x17_1).f2.f3))).trans hx106_0; replace hx106_1 := (cell_far (p := ⟨gb105, 5, none⟩) (zrn hn106_5) (.string ((rd_T58 l0 x17_1).f2.f3))).trans hx106_1; replace hx106_2 := (cell_far (p := ⟨gb105, 5, none⟩) (zrn hn106_5) (.string ((rd_T58 l0 x17_1).f2.f3))).trans hx106_2; replace hx106_3 := (cell_far (p := ⟨gb105, 5, none⟩) (zrn hn106_5) (.string ((rd_T58 l0 x17_1).f2.f3))).trans hx106_3; replace hx106_4 := (cell_far (p := ⟨gb105, 5, none⟩) (zrn hn106_5) (.string ((rd_T58 l0 x17_1).f2.f3))).trans hx106_4; replace hx106_5 := (cell_far (p := ⟨gb105, 5, none⟩) (zrn hn106_5) (.string ((rd_T58 l0 x17_1).f2.f3))).trans hx106_5; replace hx106_6 := (cell_far (p := ⟨gb105, 5, none⟩) (zrn hn106_5) (.string ((rd_T58 l0 x17_1).f2.f3))).trans hx106_6; replace hx106_0 := (cell_far (p := ⟨gb105, 6, none⟩) (zrn hn106_6) (.slice A104_6 ((rd_T58 l0 x17_1).f2.f4).length c104_6)).trans hx106_0; replace hx106_1 := (cell_far (p := ⟨gb105, 6, none⟩) (zrn hn106_6) (.slice A104_6 ((rd_T58 l0 x17_1).f2.f4).length c104_6)).trans hx106_1; replace hx106_2 := (cell_far (p := ⟨gb105, 6, none⟩) (zrn hn106_6) (.slice A104_6 ((rd_T58 l0 x17_1).f2.f4).length c104_6)).trans hx106_2; replace hx106_3 := (cell_far (p := ⟨gb105, 6, none⟩) (zrn hn106_6) (.slice A104_6 ((rd_T58 l0 x17_1).f2.f4).length c104_6)).trans hx106_3; replace hx106_4 := (cell_far (p := ⟨gb105, 6, none⟩) (zrn hn106_6) (.slice A104_6 ((rd_T58 l0 x17_1).f2.f4).length c104_6)).trans hx106_4; replace hx106_5 := (cell_far (p := ⟨gb105, 6, none⟩) (zrn hn106_6) (.slice A104_6 ((rd_T58 l0 x17_1).f2.f4).length c104_6)).trans hx106_5; replace hx106_6 := (cell_far (p := ⟨gb105, 6, none⟩) (zrn hn106_6) (.slice A104_6 ((rd_T58 l0 x17_1).f2.f4).length c104_6)).trans hx106_6; clear hn106_0; clear hn106_1; clear hn106_2; clear hn106_3; clear hn106_4; clear hn106_5; clear hn106_6; replace p106 := eq_true p106; replace q106 := eq_true q106) | ((with_reducible refine gate_dst (N := 9) rfl ?_); refine box_event ?hg (N := 9) ?hd (cs := #[.int .i64 0, .bool false, .int .i64 0, .int .i64 0, .int .i64 0, .string (⟨#[]⟩ : ByteArray), .slice none 0 0]) (t := 58) ?hr ?_; (case hd => rfl); (case hg => rfl); (case hr => exact zrr); intro gb107 hg w20 hbox hb; have n0_ := zqj (blk_below (g := gb105) (o := .cells #[.int .i64 ((rd_T58 l0 x17_1).f0), .bool ((rd_T58 l0 x17_1).f1), .int .i64 ((rd_T58 l0 x17_1).f2.f0), .int .i64 ((rd_T58 l0 x17_1).f2.f1), .int .i64 ((rd_T58 l0 x17_1).f2.f2), .string ((rd_T58 l0 x17_1).f2.f3), .slice A104_6 ((rd_T58 l0 x17_1).f2.f4).length c104_6] 58 (0, 0)) (by (with_reducible repeat (first | refine zqa ?_ _ | refine zqb ?_ | refine zqc ?_ _)); refine blk_put (cs := #[.int .i64 ((rd_T58 l0 x17_1).f0), .bool ((rd_T58 l0 x17_1).f1), .int .i64 ((rd_T58 l0 x17_1).f2.f0), .int .i64 ((rd_T58 l0 x17_1).f2.f1), .int .i64 ((rd_T58 l0 x17_1).f2.f2), .string ((rd_T58 l0 x17_1).f2.f3), .slice none 0 0]) ?_ 6 _ rfl; (with_reducible repeat (first | refine zqa ?_ _ | refine zqb ?_ | refine zqc ?_ _)); refine blk_put (cs := #[.int .i64 ((rd_T58 l0 x17_1).f0), .bool ((rd_T58 l0 x17_1).f1), .int .i64 ((rd_T58 l0 x17_1).f2.f0), .int .i64 ((rd_T58 l0 x17_1).f2.f1), .int .i64 ((rd_T58 l0 x17_1).f2.f2), .string (⟨#[]⟩ : ByteArray), .slice none 0 0]) ?_ 5 _ rfl; (with_reducible repeat (first | refine zqa ?_ _ | refine zqb ?_ | refine zqc ?_ _)); refine blk_put (cs := #[.int .i64 ((rd_T58 l0 x17_1).f0), .bool ((rd_T58 l0 x17_1).f1), .int .i64 ((rd_T58 l0 x17_1).f2.f0), .int .i64 ((rd_T58 l0 x17_1).f2.f1), .int .i64 0, .string (⟨#[]⟩ : ByteArray), .slice none 0 0]) ?_ 4 _ rfl; (with_reducible repeat (first | refine zqa ?_ _ | refine zqb ?_ | refine zqc ?_ _)); refine blk_put (cs := #[.int .i64 ((rd_T58 l0 x17_1).f0), .bool ((rd_T58 l0 x17_1).f1), .int .i64 ((rd_T58 l0 x17_1).f2.f0), .int .i64 0, .int .i64 0, .string (⟨#[]⟩ : ByteArray), .slice none 0 0]) ?_ 3 _ rfl; (with_reducible repeat (first | refine zqa ?_ _ | refine zqb ?_ | refine zqc ?_ _)); refine blk_put (cs := #[.int .i64 ((rd_T58 l0 x17_1).f0), .bool ((rd_T58 l0 x17_1).f1), .int .i64 0, .int .i64 0, .int .i64 0, .string (⟨#[]⟩ : ByteArray), .slice none 0 0]) ?_ 2 _ rfl; (with_reducible repeat (first | refine zqa ?_ _ | refine zqb ?_ | refine zqc ?_ _)); refine blk_put (cs := #[.int .i64 ((rd_T58 l0 x17_1).f0), .bool false, .int .i64 0, .int .i64 0, .int .i64 0, .string (⟨#[]⟩ : ByteArray), .slice none 0 0]) ?_ 1 _ rfl; (with_reducible repeat (first | refine zqa ?_ _ | refine zqb ?_ | refine zqc ?_ _)); refine blk_put (cs := #[.int .i64 0, .bool false, .int .i64 0, .int .i64 0, .int .i64 0, .string (⟨#[]⟩ : ByteArray), .slice none 0 0]) ?_ 0 _ rfl; (with_reducible repeat (first | refine zqa ?_ _ | refine zqb ?_ | refine zqc ?_ _)); exact BK105.out) hb); have n1_ := zqj (below_step (zrd1 HB.out GE105.out) hb); have n2_ := zqj (hbox); have n3_ := zqj ((by rw [hg]; exact (below_size (zrd1 HB.out GE105.out)) : w.heap.size ≤ gb107)); have n4_ := zqj ((by rw [hg]; exact (below_size (zrd1 HB.out GE105.out)) : w.heap.size ≤ gb107)); have n5_ := zqj ((by rw [hg]; exact Nat.ne_of_lt (blk_lt (g := gb105) (o := .cells #[.int .i64 ((rd_T58 l0 x17_1).f0), .bool ((rd_T58 l0 x17_1).f1), .int .i64 ((rd_T58 l0 x17_1).f2.f0), .int .i64 ((rd_T58 l0 x17_1).f2.f1), .int .i64 ((rd_T58 l0 x17_1).f2.f2), .string ((rd_T58 l0 x17_1).f2.f3), .slice A104_6 ((rd_T58 l0 x17_1).f2.f4).length c104_6] 58 (0, 0)) (by (with_reducible repeat (first | refine zqa ?_ _ | refine zqb ?_ | refine zqc ?_ _)); refine blk_put (cs := #[.int .i64 ((rd_T58 l0 x17_1).f0), .bool ((rd_T58 l0 x17_1).f1), .int .i64 ((rd_T58 l0 x17_1).f2.f0), .int .i64 ((rd_T58 l0 x17_1).f2.f1), .int .i64 ((rd_T58 l0 x17_1).f2.f2), .string ((rd_T58 l0 x17_1).f2.f3), .slice none 0 0]) ?_ 6 _ rfl; (with_reducible repeat (first | refine zqa ?_ _ | refine zqb ?_ | refine zqc ?_ _)); refine blk_put (cs := #[.int .i64 ((rd_T58 l0 x17_1).f0), .bool ((rd_T58 l0 x17_1).f1), .int .i64 ((rd_T58 l0 x17_1).f2.f0), .int .i64 ((rd_T58 l0 x17_1).f2.f1), .int .i64 ((rd_T58 l0 x17_1).f2.f2), .string (⟨#[]⟩ : ByteArray), .slice none 0 0]) ?_ 5 _ rfl; (with_reducible repeat (first | refine zqa ?_ _ | refine zqb ?_ | refine zqc ?_ _)); refine blk_put (cs := #[.int .i64 ((rd_T58 l0 x17_1).f0), .bool ((rd_T58 l0 x17_1).f1), .int .i64 ((rd_T58 l0 x17_1).f2.f0), .int .i64 ((rd_T58 l0 x17_1).f2.f1), .int .i64 0, .string (⟨#[]⟩ : ByteArray), .slice none 0 0]) ?_ 4 _ rfl; (with_reducible repeat (first | refine zqa ?_ _ | refine zqb ?_ | refine zqc ?_ _)); refine blk_put (cs := #[.int .i64 ((rd_T58 l0 x17_1).f0), .bool ((rd_T58 l0 x17_1).f1), .int .i64 ((rd_T58 l0 x17_1).f2.f0), .int .i64 0, .int .i64 0, .string (⟨#[]⟩ : ByteArray), .slice none 0 0]) ?_ 3 _ rfl; (with_reducible repeat (first | refine zqa ?_ _ | refine zqb ?_ | refine zqc ?_ _)); refine blk_put (cs := #[.int .i64 ((rd_T58 l0 x17_1).f0), .bool ((rd_T58 l0 x17_1).f1), .int .i64 0, .int .i64 0, .int .i64 0, .string (⟨#[]⟩ : ByteArray), .slice none 0 0]) ?_ 2 _ rfl; (with_reducible repeat (first | refine zqa ?_ _ | refine zqb ?_ | refine zqc ?_ _)); refine blk_put (cs := #[.int .i64 ((rd_T58 l0 x17_1).f0), .bool false, .int .i64 0, .int .i64 0, .int .i64 0, .string (⟨#[]⟩ : ByteArray), .slice none 0 0]) ?_ 1 _ rfl; (with_reducible repeat (first | refine zqa ?_ _ | refine zqb ?_ | refine zqc ?_ _)); refine blk_put (cs := #[.int .i64 0, .bool false, .int .i64 0, .int .i64 0, .int .i64 0, .string (⟨#[]⟩ : ByteArray), .slice none 0 0]) ?_ 0 _ rfl; (with_reducible repeat (first | refine zqa ?_ _ | refine zqb ?_ | refine zqc ?_ _)); exact BK105.out)) : gb105 ≠ gb107)); have n6_ := zqj ((by rw [hg]; exact Nat.ne_of_gt (blk_lt (g := gb105) (o := .cells #[.int .i64 ((rd_T58 l0 x17_1).f0), .bool ((rd_T58 l0 x17_1).f1), .int .i64 ((rd_T58 l0 x17_1).f2.f0), .int .i64 ((rd_T58 l0 x17_1).f2.f1), .int .i64 ((rd_T58 l0 x17_1).f2.f2), .string ((rd_T58 l0 x17_1).f2.f3), .slice A104_6 ((rd_T58 l0 x17_1).f2.f4).length c104_6] 58 (0, 0)) (by (with_reducible repeat (first | refine zqa ?_ _ | refine zqb ?_ | refine zqc ?_ _)); refine blk_put (cs := #[.int .i64 ((rd_T58 l0 x17_1).f0), .bool ((rd_T58 l0 x17_1).f1), .int .i64 ((rd_T58 l0 x17_1).f2.f0), .int .i64 ((rd_T58 l0 x17_1).f2.f1), .int .i64 ((rd_T58 l0 x17_1).f2.f2), .string ((rd_T58 l0 x17_1).f2.f3), .slice none 0 0]) ?_ 6 _ rfl; (with_reducible repeat (first | refine zqa ?_ _ | refine zqb ?_ | refine zqc ?_ _)); refine blk_put (cs := #[.int .i64 ((rd_T58 l0 x17_1).f0), .bool ((rd_T58 l0 x17_1).f1), .int .i64 ((rd_T58 l0 x17_1).f2.f0), .int .i64 ((rd_T58 l0 x17_1).f2.f1), .int .i64 ((rd_T58 l0 x17_1).f2.f2), .string (⟨#[]⟩ : ByteArray), .slice none 0 0]) ?_ 5 _ rfl; (with_reducible repeat (first | refine zqa ?_ _ | refine zqb ?_ | refine zqc ?_ _)); refine blk_put (cs := #[.int .i64 ((rd_T58 l0 x17_1).f0), .bool ((rd_T58 l0 x17_1).f1), .int .i64 ((rd_T58 l0 x17_1).f2.f0), .int .i64 ((rd_T58 l0 x17_1).f2.f1), .int .i64 0, .string (⟨#[]⟩ : ByteArray), .slice none 0 0]) ?_ 4 _ rfl; (with_reducible repeat (first | refine zqa ?_ _ | refine zqb ?_ | refine zqc ?_ _)); refine blk_put (cs := #[.int .i64 ((rd_T58 l0 x17_1).f0), .bool ((rd_T58 l0 x17_1).f1), .int .i64 ((rd_T58 l0 x17_1).f2.f0), .int .i64 0, .int .i64 0, .string (⟨#[]⟩ : ByteArray), .slice none 0 0]) ?_ 3 _ rfl; (with_reducible repeat (first | refine zqa ?_ _ | refine zqb ?_ | refine zqc ?_ _)); refine blk_put (cs := #[.int .i64 ((rd_T58 l0 x17_1).f0), .bool ((rd_T58 l0 x17_1).f1), .int .i64 0, .int .i64 0, .int .i64 0, .string (⟨#[]⟩ : ByteArray), .slice none 0 0]) ?_ 2 _ rfl; (with_reducible repeat (first | refine zqa ?_ _ | refine zqb ?_ | refine zqc ?_ _)); refine blk_put (cs := #[.int .i64 ((rd_T58 l0 x17_1).f0), .bool false, .int .i64 0, .int .i64 0, .int .i64 0, .string (⟨#[]⟩ : ByteArray), .slice none 0 0]) ?_ 1 _ rfl; (with_reducible repeat (first | refine zqa ?_ _ | refine zqb ?_ | refine zqc ?_ _)); refine blk_put (cs := #[.int .i64 0, .bool false, .int .i64 0, .int .i64 0, .int .i64 0, .string (⟨#[]⟩ : ByteArray), .slice none 0 0]) ?_ 0 _ rfl; (with_reducible repeat (first | refine zqa ?_ _ | refine zqb ?_ | refine zqc ?_ _)); exact BK105.out)) : gb107 ≠ gb105)); clear BK105; clear HB; have BK105 := n0_; have HB := n1_; have BK107 := n2_; have GW107 := n3_; have GE107 := n4_; have NB105_107 := n5_; have NB107_105 := n6_; clear n0_ n1_ n2_ n3_ n4_ n5_ n6_; clear hb hbox hg; have hnb21 := NB107_105.out; have hnc21 := NB105_107.out; obtain ⟨hcz22_0, hcz22_1, hcz22_2, hcz22_3, hcz22_4, hcz22_5, hcz22_6⟩ := zc7 BK107.out; obtain ⟨hfz22_0, hfz22_1, hfz22_2, hfz22_3, hfz22_4, hfz22_5, hfz22_6⟩ := zf7 BK107.out; obtain ⟨hcz23_0, hcz23_1, hcz23_2, hcz23_3, hcz23_4, hcz23_5, hcz23_6⟩ := zc7 BK105.out; obtain ⟨hfz23_0, hfz23_1, hfz23_2, hfz23_3, hfz23_4, hfz23_5, hfz23_6⟩ := zf7 BK105.out) | ((with_reducible refine gate_calleeT rfl ?_); refine goesLT_ (some 29) rfl rfl Try.func44 (by kernel_rfl) rfl #[.agg #[.int .i64 ((rd_T58 l0 x17_1).f0), .bool ((rd_T58 l0 x17_1).f1), .int .i64 ((rd_T58 l0 x17_1).f2.f0), .int .i64 ((rd_T58 l0 x17_1).f2.f1), .int .i64 ((rd_T58 l0 x17_1).f2.f2), .string ((rd_T58 l0 x17_1).f2.f3), .slice A104_6 ((rd_T58 l0 x17_1).f2.f4).length c104_6], .agg #[.int .i64 ((rd_T58 l1 x17_1).f0), .bool ((rd_T58 l1 x17_1).f1), .int .i64 ((rd_T58 l1 x17_1).f2.f0), .int .i64 ((rd_T58 l1 x17_1).f2.f1), .int .i64 ((rd_T58 l1 x17_1).f2.f2), .string ((rd_T58 l1 x17_1).f2.f3), .slice A106_6 ((rd_T58 l1 x17_1).f2.f4).length c106_6]] rfl (by rfl) zra ?_; (with_reducible refine (store_Same_1.calls k1 ((rd_T58 l0 x17_1).f0) ((rd_T58 l0 x17_1).f1) ((rd_T58 l0 x17_1).f2.f0) ((rd_T58 l0 x17_1).f2.f1) ((rd_T58 l0 x17_1).f2.f2) ((rd_T58 l0 x17_1).f2.f3) _ _ ((rd_T58 l0 x17_1).f2.f4) ((rd_T58 l1 x17_1).f0) ((rd_T58 l1 x17_1).f1) ((rd_T58 l1 x17_1).f2.f0) ((rd_T58 l1 x17_1).f2.f1) ((rd_T58 l1 x17_1).f2.f2) ((rd_T58 l1 x17_1).f2.f3) _ _ ((rd_T58 l1 x17_1).f2.f4) false _ ?side1 ?side2 ?side3 ?side4 A9.out).mono ?_); (case side1 => exact Kd.C_below HR104_6.out (zrd2 HB.out GE105.out GE107.out)); (case side2 => exact HC104_6.out); (case side3 => exact Kd.C_below HR106_6.out (zrd2 HB.out GE105.out GE107.out)); (case side4 => exact HC106_6.out); rintro e w24 ⟨rfl, hb⟩; refine ⟨_, rfl, ?_⟩; replace BK105 := zqj (blk_below (g := gb105) (o := .cells #[.int .i64 ((rd_T58 l0 x17_1).f0), .bool ((rd_T58 l0 x17_1).f1), .int .i64 ((rd_T58 l0 x17_1).f2.f0), .int .i64 ((rd_T58 l0 x17_1).f2.f1), .int .i64 ((rd_T58 l0 x17_1).f2.f2), .string ((rd_T58 l0 x17_1).f2.f3), .slice A104_6 ((rd_T58 l0 x17_1).f2.f4).length c104_6] 58 (0, 0)) (by (iterate 7 ((with_reducible repeat (first | refine zqa ?_ _ | refine zqb ?_ | refine zqc ?_ _)); refine blk_far ?_ NB105_107.out _)); (with_reducible repeat (first | refine zqa ?_ _ | refine zqb ?_ | refine zqc ?_ _)); exact BK105.out) hb); replace BK107 := zqj (blk_below (g := gb107) (o := .cells #[.int .i64 ((rd_T58 l1 x17_1).f0), .bool ((rd_T58 l1 x17_1).f1), .int .i64 ((rd_T58 l1 x17_1).f2.f0), .int .i64 ((rd_T58 l1 x17_1).f2.f1), .int .i64 ((rd_T58 l1 x17_1).f2.f2), .string ((rd_T58 l1 x17_1).f2.f3), .slice A106_6 ((rd_T58 l1 x17_1).f2.f4).length c106_6] 58 (0, 0)) (by (with_reducible repeat (first | refine zqa ?_ _ | refine zqb ?_ | refine zqc ?_ _)); refine blk_put (cs := #[.int .i64 ((rd_T58 l1 x17_1).f0), .bool ((rd_T58 l1 x17_1).f1), .int .i64 ((rd_T58 l1 x17_1).f2.f0), .int .i64 ((rd_T58 l1 x17_1).f2.f1), .int .i64 ((rd_T58 l1 x17_1).f2.f2), .string ((rd_T58 l1 x17_1).f2.f3), .slice none 0 0]) ?_ 6 _ rfl; (with_reducible repeat (first | refine zqa ?_ _ | refine zqb ?_ | refine zqc ?_ _)); refine blk_put (cs := #[.int .i64 ((rd_T58 l1 x17_1).f0), .bool ((rd_T58 l1 x17_1).f1), .int .i64 ((rd_T58 l1 x17_1).f2.f0), .int .i64 ((rd_T58 l1 x17_1).f2.f1), .int .i64 ((rd_T58 l1 x17_1).f2.f2), .string (⟨#[]⟩ : ByteArray), .slice none 0 0]) ?_ 5 _ rfl; (with_reducible repeat (first | refine zqa ?_ _ | refine zqb ?_ | refine zqc ?_ _)); refine blk_put (cs := #[.int .i64 ((rd_T58 l1 x17_1).f0), .bool ((rd_T58 l1 x17_1).f1), .int .i64 ((rd_T58 l1 x17_1).f2.f0), .int .i64 ((rd_T58 l1 x17_1).f2.f1), .int .i64 0, .string (⟨#[]⟩ : ByteArray), .slice none 0 0]) ?_ 4 _ rfl; (with_reducible repeat (first | refine zqa ?_ _ | refine zqb ?_ | refine zqc ?_ _)); refine blk_put (cs := #[.int .i64 ((rd_T58 l1 x17_1).f0), .bool ((rd_T58 l1 x17_1).f1), .int .i64 ((rd_T58 l1 x17_1).f2.f0), .int .i64 0, .int .i64 0, .string (⟨#[]⟩ : ByteArray), .slice none 0 0]) ?_ 3 _ rfl; (with_reducible repeat (first | refine zqa ?_ _ | refine zqb ?_ | refine zqc ?_ _)); refine blk_put (cs := #[.int .i64 ((rd_T58 l1 x17_1).f0), .bool ((rd_T58 l1 x17_1).f1), .int .i64 0, .int .i64 0, .int .i64 0, .string (⟨#[]⟩ : ByteArray), .slice none 0 0]) ?_ 2 _ rfl; (with_reducible repeat (first | refine zqa ?_ _ | refine zqb ?_ | refine zqc ?_ _)); refine blk_put (cs := #[.int .i64 ((rd_T58 l1 x17_1).f0), .bool false, .int .i64 0, .int .i64 0, .int .i64 0, .string (⟨#[]⟩ : ByteArray), .slice none 0 0]) ?_ 1 _ rfl; (with_reducible repeat (first | refine zqa ?_ _ | refine zqb ?_ | refine zqc ?_ _)); refine blk_put (cs := #[.int .i64 0, .bool false, .int .i64 0, .int .i64 0, .int .i64 0, .string (⟨#[]⟩ : ByteArray), .slice none 0 0]) ?_ 0 _ rfl; (with_reducible repeat (first | refine zqa ?_ _ | refine zqb ?_ | refine zqc ?_ _)); exact BK107.out) hb); replace HB := zqj (below_step (zrd2 HB.out GE105.out GE107.out) hb); (try clear hb); (try clear hb2); (try clear hk); (try clear hi)))
         go_ret
         exact ⟨zru, by repeat (first | (with_reducible first | exact HB.out | apply zqg | apply zqe | apply zqf | refine zqd ?_ GE105.out | refine zqd ?_ GE107.out) | exact HB.out)⟩
       ·rw [if_neg c8] at H
        exact absurd H (by simp)
      ·rw [if_neg c7] at H
       exact absurd H (by simp)
     ·rw [if_neg c6] at H
      exact absurd H (by simp)
    ·rw [if_neg c5] at H
     have c5b0 : decide (x17_1 < (l0.length : Int)) = false := decide_eq_false c5
     clear c5
     obtain rfl := Option.some.inj H
     go_wp2
     go_ret
     exact ⟨zru, by repeat (first | (with_reducible first | exact HB.out | apply zqg | apply zqe | apply zqf) | exact HB.out)⟩
 ·rw [if_neg c4] at H
  have c4b0 : ((l0.length : Int) == (l1.length : Int)) = false := beq_eq_false_iff_ne.mpr c4
  have c4b1 : ((l0.length : Int) != (l1.length : Int)) = true := bne_iff_ne.mpr c4
  have c4b2 : (l0.length == l1.length) = false := by first | simpa using c4 | (simp at c4 ⊢; omega)
  obtain rfl := Option.some.inj H
  go_enter Try.func47, Try.ntmps47
  go_wp2
  go_ret
  exact ⟨zru, by repeat (first | (with_reducible first | exact HB.out | apply zqg | apply zqe | apply zqf) | exact HB.out)⟩
def api_Count.l0 : Nat → List (S61) → List (S61) → Int → Int → Option (Bool)
 | 0, _, _, _, _ => none
 | k + 1, x0, x1, x12, x13 => if x13 < x12 then (if 0 ≤ x13 then (if x13 < (x0.length : Int) then (if x13 < (x1.length : Int) then (if (!(((rd_T61 x0 x13).f0) == ((rd_T61 x1 x13).f0)) || (!(((rd_T61 x0 x13).f1) == ((rd_T61 x1 x13).f1)))) = true then (some false) else (api_Count.l0 k x0 x1 x12 (wrap64 (x13 + 1)))) else (none)) else (none)) else (none)) else (some true)
def api_Count.f (k : Nat) (l0 : List (S61)) (l1 : List (S61)) : Option (Bool) := if (l0.length : Int) = (l1.length : Int) then (api_Count.l0 k l0 l1 (l0.length : Int) 0) else (some false)
theorem api_Count.mono_l : ∀ k, (∀ y0 y1 y2 y3, LeO (api_Count.l0 k y0 y1 y2 y3) (api_Count.l0 (k + 1) y0 y1 y2 y3))
 | 0 => fun _ _ _ _ r h => by simp [api_Count.l0] at h
 | k + 1 => by
  have ih0 := api_Count.mono_l k
  ·intro y0 y1 y2 y3
   unfold api_Count.l0
   repeat' first
   | (with_reducible exact ih0 _ _ _ _)
   | (with_reducible exact LeO.refl _)
   | (with_reducible exact LeO.none _)
   | (with_reducible refine LeO.ite ?_ ?_)
   | (with_reducible refine LeO.bind ?_ (fun _ => ?_))
   | exact ih0 _ _ _ _
   | exact LeO.none _
   | refine LeO.ite ?_ ?_
   | refine LeO.bind ?_ (fun _ => ?_)
theorem api_Count.mono : ∀ a0 a1 k, LeO (api_Count.f k a0 a1) (api_Count.f (k + 1) a0 a1) := by
 intro a0 a1 k
 have ih0 := api_Count.mono_l k
 unfold api_Count.f
 repeat' first
   | (with_reducible exact ih0 _ _ _ _)
   | (with_reducible exact LeO.refl _)
   | (with_reducible exact LeO.none _)
   | (with_reducible refine LeO.ite ?_ ?_)
   | (with_reducible refine LeO.bind ?_ (fun _ => ?_))
   | exact ih0 _ _ _ _
   | exact LeO.none _
   | refine LeO.ite ?_ ?_
   | refine LeO.bind ?_ (fun _ => ?_)
set_option maxHeartbeats 8000000 in
set_option maxRecDepth 100000 in
theorem api_Count.calls (k : Nat) (A0 : Option Addr) (c0 : Nat) (l0 : List (S61)) (A1 : Option Addr) (c1 : Nat) (l1 : List (S61)) (r : Bool) (w : World) (hr0 : Kd.C k61 w A0 l0.length l0) (hc0 : l0.length ≤ c0) (hr1 : Kd.C k61 w A1 l1.length l1) (hc1 : l1.length ≤ c1) (h : api_Count.f k l0 l1 = some r) :
  Calls Try.prog 48 #[.slice A0 l0.length c0, .slice A1 l1.length c1] w fun e w' => e = .returned (.bool r) ∧ Drawn0 w w' := by
 have hu61 := Try.underlying61
 have HR0 := zqj hr0
 have HC0 := zqj hc0
 clear hr0 hc0
 have HR1 := zqj hr1
 have HC1 := zqj hc1
 clear hr1 hc1
 have H : (if (l0.length : Int) = (l1.length : Int) then (api_Count.l0 k l0 l1 (l0.length : Int) 0) else (some false)) = some r := h
 clear h
 by_cases c3 : (l0.length : Int) = (l1.length : Int)
 ·rw [if_pos c3] at H
  have c3b0 : ((l0.length : Int) == (l1.length : Int)) = true := beq_iff_eq.mpr c3
  have c3b1 : ((l0.length : Int) != (l1.length : Int)) = false := bne_eq_false_iff_eq.mpr c3
  have c3b2 : (l0.length == l1.length) = true := by first | simpa using c3 | (simp at c3 ⊢; omega)
  clear c3
  have H' := zqj H
  clear H
  go_enter Try.func48, Try.ntmps48
  go_wp2
  repeat (go_quiet (fail); try go_wp2)
  go_loopg [13] k (fun kq v13 w' => ∃ (x13_1 : Int), v13 = .int .i64 x13_1 ∧ Aside0 (api_Count.l0 kq l0 l1 (l0.length : Int) x13_1 = some r) ∧ Aside0 (kq ≤ k) ∧ Drawn0 w w')
  case atStart => exact ⟨(0), zrt, H', ⟨Nat.le_refl _⟩, by repeat (first | exact Drawn0.refl _ | apply Drawn0.step)⟩
  case round =>
   clear H'
   ((try clear c1); (try clear p2); (try clear c3); (try clear c3b0); (try clear c3b1); (try clear c3b2))
   obtain ⟨x13_1, rfl, HA, HK1, ⟨m1, rfl⟩⟩ := hrel
   cases gk with
   | zero => exact absurd HA.out (by simp [api_Count.l0])
   | succ k1 =>
    (have H := HA.out; clear HA)
    simp only [api_Count.l0] at H
    by_cases c4 : x13_1 < (l0.length : Int)
    ·rw [if_pos c4] at H
     have c4b0 : decide (x13_1 < (l0.length : Int)) = true := decide_eq_true c4
     clear c4
     by_cases c5 : 0 ≤ x13_1
     ·rw [if_pos c5] at H
      have c5b0 : decide (0 ≤ x13_1) = true := decide_eq_true c5
      clear c5
      by_cases c6 : x13_1 < (l0.length : Int)
      ·rw [if_pos c6] at H
       have c6b0 : decide (x13_1 < (l0.length : Int)) = true := decide_eq_true c6
       clear c6
       by_cases c7 : x13_1 < (l1.length : Int)
       ·rw [if_pos c7] at H
        have c7b0 : decide (x13_1 < (l1.length : Int)) = true := decide_eq_true c7
        clear c7
        by_cases c8 : (!(((rd_T61 l0 x13_1).f0) == ((rd_T61 l1 x13_1).f0)) || (!(((rd_T61 l0 x13_1).f1) == ((rd_T61 l1 x13_1).f1)))) = true
        ·rw [if_pos c8] at H
         have c8b0 : (!(((rd_T61 l0 x13_1).f0) == ((rd_T61 l1 x13_1).f0)) || (!(((rd_T61 l0 x13_1).f1) == ((rd_T61 l1 x13_1).f1)))) = true := c8
         clear c8
         obtain rfl := Option.some.inj H
         have p109 : 0 ≤ (x13_1 : Int) := zqh zrs
         have q109 : x13_1 < (l0.length : Int) := zqh zrs
         obtain ⟨ad109, e109, hx109_0, hx109_1⟩ := at_T61 HR0.out x13_1 p109 q109
         cases e109
         replace p109 := eq_true p109
         replace q109 := eq_true q109
         have p110 : 0 ≤ (x13_1 : Int) := zqh zrs
         have q110 : x13_1 < (l1.length : Int) := zqh zrs
         obtain ⟨ad110, e110, hx110_0, hx110_1⟩ := at_T61 HR1.out x13_1 p110 q110
         cases e110
         replace p110 := eq_true p110
         replace q110 := eq_true q110
         go_wp2
         repeat (go_quiet (fail); try go_wp2)
         go_ret
         exact ⟨by first | rfl | (simp; done) | (simp [*]; done), by repeat (first | exact Drawn0.refl _ | apply Drawn0.step)⟩
        ·rw [if_neg c8] at H
         have c8b0 : (!(((rd_T61 l0 x13_1).f0) == ((rd_T61 l1 x13_1).f0)) || (!(((rd_T61 l0 x13_1).f1) == ((rd_T61 l1 x13_1).f1)))) = false := by simpa using c8
         clear c8
         have H' := zqj H
         clear H
         have p109 : 0 ≤ (x13_1 : Int) := zqh zrs
         have q109 : x13_1 < (l0.length : Int) := zqh zrs
         obtain ⟨ad109, e109, hx109_0, hx109_1⟩ := at_T61 HR0.out x13_1 p109 q109
         cases e109
         replace p109 := eq_true p109
         replace q109 := eq_true q109
         have p110 : 0 ≤ (x13_1 : Int) := zqh zrs
         have q110 : x13_1 < (l1.length : Int) := zqh zrs
         obtain ⟨ad110, e110, hx110_0, hx110_1⟩ := at_T61 HR1.out x13_1 p110 q110
         cases e110
         replace p110 := eq_true p110
         replace q110 := eq_true q110
         go_wp2
         repeat (go_quiet (fail); try go_wp2)
         go_roundg k1
         case measure => have := HK1.out; omega
         case rel => exact ⟨(wrap64 (x13_1 + 1)), zrt, H', ⟨by have := HK1.out; omega⟩, by repeat (first | exact Drawn0.refl _ | apply Drawn0.step)⟩
       ·rw [if_neg c7] at H
        exact absurd H (by simp)
      ·rw [if_neg c6] at H
       exact absurd H (by simp)
     ·rw [if_neg c5] at H
      exact absurd H (by simp)
    ·rw [if_neg c4] at H
     have c4b0 : decide (x13_1 < (l0.length : Int)) = false := decide_eq_false c4
     clear c4
     obtain rfl := Option.some.inj H
     go_wp2
     repeat (go_quiet (fail); try go_wp2)
     go_ret
     exact ⟨by first | rfl | (simp; done) | (simp [*]; done), by repeat (first | exact Drawn0.refl _ | apply Drawn0.step)⟩
 ·rw [if_neg c3] at H
  have c3b0 : ((l0.length : Int) == (l1.length : Int)) = false := beq_eq_false_iff_ne.mpr c3
  have c3b1 : ((l0.length : Int) != (l1.length : Int)) = true := bne_iff_ne.mpr c3
  have c3b2 : (l0.length == l1.length) = false := by first | simpa using c3 | (simp at c3 ⊢; omega)
  obtain rfl := Option.some.inj H
  go_enter Try.func48, Try.ntmps48
  go_wp2
  repeat (go_quiet (fail); try go_wp2)
  go_ret
  exact ⟨by first | rfl | (simp; done) | (simp [*]; done), by repeat (first | exact Drawn0.refl _ | apply Drawn0.step)⟩
end Go.Proofs.Ytdkgkiemndlneaa.Y
end

section
namespace Go.Proofs.Ytdkgkiemndlneaa.Y
open Go.RowKit Go.Proofs.YtdkgkiemndlneaaW.PrintWords Go.Proofs.YtdkgkiemndlneaaW.PrintLast Go.Proofs.YtdkgkiemndlneaaW.PrintMore
attribute [local go_sem] max2_int min2_int max_two min_two max_three min_three max_four min_four   -- for this text's walks alone
open Go.Proofs.Ytdkgkiemndlneaa.X
attribute [local go_sem high] Go.Proofs.Ytdkgkiemndlneaa.px_xor_u8 Go.Proofs.Ytdkgkiemndlneaa.px_xor_u16 Go.Proofs.Ytdkgkiemndlneaa.px_xor_u32 Go.Proofs.Ytdkgkiemndlneaa.px_xor_u64
end Go.Proofs.Ytdkgkiemndlneaa.Y
end

section
namespace Go.Proofs.Ytdkgkiemndlneaa
open Go.RowKit Go.Proofs.Ytdkgkiemndlneaa.Q Go.Proofs.YtdkgkiemndlneaaW.PrintWords Go.Proofs.YtdkgkiemndlneaaW.PrintLast Go.Proofs.YtdkgkiemndlneaaW.PrintMore Math Pl
namespace Pl
def verEq (a b : S58) : Bool := (a.f0 == b.f0) && ((a.f1 == b.f1) && sameN a.f2 b.f2)
def eqL {α : Type} (f : α → α → Bool) : List α → List α → Bool
 | [], [] => true
 | x :: l, y :: m => f x y && eqL f l m
 | _, _ => false
theorem eqL_iff {α : Type} {f : α → α → Bool} (hf : ∀ x y, f x y = true ↔ x = y) : ∀ a b : List α, eqL f a b = true ↔ a = b
 | [], [] => by simp [eqL]
 | [], _ :: _ => by simp [eqL]
 | _ :: _, [] => by simp [eqL]
 | x :: l, y :: m => by rw [eqL, Bool.and_eq_true, hf, eqL_iff hf l m, List.cons.injEq]
theorem eqL_len {α : Type} {f : α → α → Bool} : ∀ a b : List α, a.length ≠ b.length → eqL f a b = false
 | [], [], h => absurd rfl h
 | [], _ :: _, _ => rfl
 | _ :: _, [], _ => rfl
 | x :: l, y :: m, h => by rw [eqL, eqL_len l m (fun e => h (by rw [List.length_cons, List.length_cons, e])), Bool.and_false]
def cntEq (a b : S61) : Bool := (a.f0 == b.f0) && (a.f1 == b.f1)
def chainEq (a b : S55) : Bool := (a.f0 == b.f0) && eqL verEq a.f1 b.f1
def storeEq (l0 : List S55) (l1 : List S61) (st : Int) (m0 : List S55) (m1 : List S61) (st' : Int) : Bool := (st == st') && (eqL cntEq l1 m1 && eqL chainEq l0 m0)
theorem go_verEq (a b : S58) (hl : a.f2.f4.length ≤ 10000) (k : Nat) (hk : 10000 < k) : Y.store_Same_1.f k a.f0 a.f1 a.f2.f0 a.f2.f1 a.f2.f2 a.f2.f3 a.f2.f4 b.f0 b.f1 b.f2.f0 b.f2.f1 b.f2.f2 b.f2.f3 b.f2.f4 = some (verEq a b) := by
 unfold Y.store_Same_1.f verEq
 by_cases h0 : a.f0 = b.f0
 ·rw [if_pos h0]
  cases h1 : (a.f1 == b.f1)
  ·rw [if_neg (by decide)]; simp
  ·rw [if_pos rfl, bs (go_sameN a.f2 b.f2 (by omega) k (by omega))]; simp [h0]
 ·rw [if_neg h0]; simp [h0]
theorem go_versEq (a b : List S58) (hl : a.length ≤ 10000) (hs : ∀ v ∈ a, v.f2.f4.length ≤ 10000) (k : Nat) (hk : 20001 < k) : Y.api_Ver.f k a b () = some (eqL verEq a b) := by
 unfold Y.api_Ver.f
 by_cases h : a.length = b.length
 ·have go : ∀ (n i k : Nat), i + n = a.length → n + 10001 < k → Y.api_Ver.l0 k b a (a.length : Int) (i : Int) = some (eqL verEq (a.drop i) (b.drop i)) := by
   intro n
   induction n with
   | zero =>
    intro i k hi hk; obtain ⟨k, rfl⟩ : ∃ j, k = j + 1 := ⟨k - 1, by omega⟩
    rw [Y.api_Ver.l0, if_neg (by omega), List.drop_eq_nil_of_le (by omega), List.drop_eq_nil_of_le (by omega)]; rfl
   | succ n ih =>
    intro i k hi hk; obtain ⟨k, rfl⟩ : ∃ j, k = j + 1 := ⟨k - 1, by omega⟩
    have ha : i < a.length := by omega
    have hb : i < b.length := by omega
    rw [Y.api_Ver.l0, if_pos (by omega), if_pos (by omega), if_pos (by omega), if_pos (by omega), rdV ha, rdV hb, List.drop_eq_getElem_cons ha, List.drop_eq_getElem_cons hb, eqL]
    have IH := ih (i + 1) k (by omega) (by omega)
    rw [bs (go_verEq a[i] b[i] (hs _ (List.getElem_mem _)) k (by omega)), w64 (by omega) (by omega), show (i : Int) + 1 = ((i + 1 : Nat) : Int) by omega, IH]
    cases verEq a[i] b[i] <;> rfl
  rw [if_pos (by omega), show (0 : Int) = ((0 : Nat) : Int) from rfl, go a.length 0 k (by omega) (by omega)]; rfl
 ·rw [if_neg (by omega), eqL_len a b h]
theorem go_cntsEq (a b : List S61) (hl : a.length ≤ 10000) (k : Nat) (hk : 10000 < k) : Y.api_Count.f k a b = some (eqL cntEq a b) := by
 unfold Y.api_Count.f
 by_cases h : a.length = b.length
 ·have go : ∀ (n i k : Nat), i + n = a.length → n < k → Y.api_Count.l0 k a b (a.length : Int) (i : Int) = some (eqL cntEq (a.drop i) (b.drop i)) := by
   intro n
   induction n with
   | zero =>
    intro i k hi hk; obtain ⟨k, rfl⟩ : ∃ j, k = j + 1 := ⟨k - 1, by omega⟩
    rw [Y.api_Count.l0, if_neg (by omega), List.drop_eq_nil_of_le (by omega), List.drop_eq_nil_of_le (by omega)]; rfl
   | succ n ih =>
    intro i k hi hk; obtain ⟨k, rfl⟩ : ∃ j, k = j + 1 := ⟨k - 1, by omega⟩
    have ha : i < a.length := by omega
    have hb : i < b.length := by omega
    rw [Y.api_Count.l0, if_pos (by omega), if_pos (by omega), if_pos (by omega), if_pos (by omega), rdC ha, rdC hb, List.drop_eq_getElem_cons ha, List.drop_eq_getElem_cons hb, eqL]
    have IH := ih (i + 1) k (by omega) (by omega)
    rw [w64 (by omega) (by omega), show (i : Int) + 1 = ((i + 1 : Nat) : Int) by omega, IH]
    unfold cntEq
    cases (a[i].f0 == b[i].f0) <;> cases (a[i].f1 == b[i].f1) <;> rfl
  rw [if_pos (by omega), show (0 : Int) = ((0 : Nat) : Int) from rfl, go a.length 0 k (by omega) (by omega)]; rfl
 ·rw [if_neg (by omega), eqL_len a b h]
end Pl
set_option maxHeartbeats 2000000 in
theorem same2_calls (x y : S55) (A : Option Addr) (c : Nat) (B : Option Addr) (d : Nat) (g0 : Nat) (w : World) (hc : w.cell? ⟨g0, 0, none⟩ = some (.func (.func 44) #[] #[])) (hx : Kd.C k58 w A x.f1.length x.f1) (hxc : x.f1.length ≤ c) (hy : Kd.C k58 w B y.f1.length y.f1) (hyc : y.f1.length ≤ d) (hs : smallC x = true) :
  Calls Try.prog 46 #[.agg #[.int .i64 x.f0, .slice A x.f1.length c], .agg #[.int .i64 y.f0, .slice B y.f1.length d], .pointer (some ⟨g0, 0, none⟩)] w fun e w' => e = .returned (.bool (chainEq x y)) ∧ Below w.heap.size w w' := by
 have hsl : x.f1.length ≤ 10000 ∧ ∀ v ∈ x.f1, v.f2.f4.length ≤ 10000 := by
  unfold smallC at hs
  rw [Bool.and_eq_true, decide_eq_true_eq, List.all_eq_true] at hs
  exact ⟨hs.1, fun v hv => by have := hs.2 v hv; simpa using this⟩
 have HO := Lib.hid (fun (W : World) (hb : Below w.heap.size w W) => Y.api_Ver.calls 20002 A c x.f1 B d y.f1 () (eqL verEq x.f1 y.f1) W (Kd.C_below hx hb) hxc (Kd.C_below hy hb) hyc (go_versEq x.f1 y.f1 hsl.1 hsl.2 20002 (by omega)))
 obtain ⟨W2, hW2⟩ : ∃ W2, W2 = (w.alloc (.cells #[.int .i64 x.f0, .slice A x.f1.length c] 55)).alloc (.cells #[.int .i64 y.f0, .slice B y.f1.length d] 55) := ⟨_, rfl⟩
 have b2 : Below w.heap.size w W2 := by rw [hW2]; exact below_then (alloc_below w _) (by rw [World.size_alloc]; omega) (alloc_below _ _)
 have hca := cell_keep hc b2
 have HB2 := Lib.hid b2; have HW2 := Lib.hid hW2
 have hu : chainEq x y = ((x.f0 == y.f0) && eqL verEq x.f1 y.f1) := rfl
 rw [hu]
 clear hx hxc hy hyc hs hsl hc b2 hW2 hu
 generalize eqL verEq x.f1 y.f1 = q at *
 cases h1 : (x.f0 == y.f0)
 ·go_enter Try.func46, Try.ntmps46
  go_wp2_with fail
  go_ret
  exact ⟨rfl, by rw [← HW2.out]; exact HB2.out⟩
 ·rw [HW2.out] at hca
  go_enter Try.func46, Try.ntmps46
  go_wp2_with fail
  rw [← HW2.out]
  refine (HO.out _ HB2.out).mono ?_
  rintro e w3 ⟨rfl, hb3⟩
  have HB := Lib.hid (below_then HB2.out HB2.out.size hb3)
  clear hb3 HO
  go_wp2_with fail
  go_ret
  exact ⟨rfl, HB.out⟩
set_option maxHeartbeats 4000000 in
set_option maxRecDepth 1000000 in
theorem equal_calls (A : Option Addr) (c : Nat) (l : List S55) (B : Option Addr) (d : Nat) (m : List S55) (g0 : Nat) (w : World) (hc : w.cell? ⟨g0, 0, none⟩ = some (.func (.func 44) #[] #[])) (hr : Kd.C k55 w A l.length l) (hm : Kd.C k55 w B m.length m) (hl : l.length ≤ 10000) (hs : ∀ x ∈ l, smallC x = true) :
  Calls Try.prog 49 #[.slice A l.length c, .slice B m.length d, .func (.func 46) #[] #[.pointer (some ⟨g0, 0, none⟩)]] w fun e w' => e = .returned (.bool (eqL chainEq l m)) ∧ Below w.heap.size w w' := by
 by_cases hne : l.length = m.length
 ·obtain ⟨F, hF⟩ : ∃ F, F = eqL chainEq (l.drop 0) (m.drop 0) := ⟨_, rfl⟩
  have hF' : F = eqL chainEq l m := hF
  rw [← hF']
  have HF := Lib.hid hF; have HR := Lib.hid hr; have HM := Lib.hid hm; have HC := Lib.hid hc; have HS := Lib.hid hs
  have n1 : (l.length != m.length) = false := by rw [bne_eq_false_iff_eq]; exact hne
  have n1i : ((l.length : Int) != (m.length : Int)) = false := by rw [bne_eq_false_iff_eq]; omega
  have HNE := Lib.hid hne
  clear hF hF' hr hm hc hs hne
  go_enter Try.func49, Try.ntmps49
  go_wp2_with fail
  go_loopg [17] (l.length + 1) (fun gk v17 wx => ∃ (i : Nat), v17 = .int .i64 (i : Int) ∧ Hid (i ≤ l.length ∧ l.length - i < gk ∧ F = eqL chainEq (l.drop i) (m.drop i)) ∧ Hid (Below w.heap.size w wx))
  case atStart => exact ⟨0, rfl, Lib.hid ⟨by omega, by omega, HF.out⟩, Lib.hid (Below.refl _ _)⟩
  case round =>
   obtain ⟨i, rfl, HI, HB⟩ := hrel
   obtain ⟨hi1, hi2, hi3⟩ := HI.out
   clear HI HF
   obtain ⟨g, rfl⟩ : ∃ g, gk = g + 1 := ⟨gk - 1, by omega⟩
   by_cases c1_ : i < l.length
   ·have c2_ : i < m.length := by have := HNE.out; omega
    have q3 : decide (i < l.length) = true := decide_eq_true c1_
    have q3i : decide ((i : Int) < (l.length : Int)) = true := decide_eq_true (by omega)
    obtain ⟨ad, A2, e2, e0, x0, x1, hl2, hi2_⟩ := at_T55 (Kd.C_below HR.out HB.out) (i : Int) (by omega) (by omega)
    cases e0
    obtain ⟨bd, B2, f2, e0, y0, y1, hm2, hj2_⟩ := at_T55 (Kd.C_below HM.out HB.out) (i : Int) (by omega) (by omega)
    cases e0
    rw [Int.toNat_natCast] at x0 x1 y0 y1
    have hX : rd_T55 l (i : Int) = l[i] := rdH c1_
    have hY : rd_T55 m (i : Int) = m[i] := rdH c2_
    have hsm := HS.out (rd_T55 l (i : Int)) (by rw [hX]; exact List.getElem_mem _)
    have hstep : F = (chainEq (rd_T55 l (i : Int)) (rd_T55 m (i : Int)) && eqL chainEq (l.drop (i + 1)) (m.drop (i + 1))) := by
     rw [hi3, List.drop_eq_getElem_cons c1_, List.drop_eq_getElem_cons c2_, eqL, hX, hY]
    have hw1 : wrap64 ((i : Int) + 1) = ((i + 1 : Nat) : Int) := by rw [w64 (by omega) (by omega)]; omega
    have p3 := eq_true (show (0 : Int) ≤ (i : Int) by omega)
    have q3e := eq_true (show (i : Int) < (l.length : Int) by omega)
    have q3f := eq_true (show (i : Int) < (m.length : Int) by omega)
    have q3g := eq_true c2_
    generalize rd_T55 l (i : Int) = x at *
    generalize rd_T55 m (i : Int) = y at *
    obtain ⟨W4, hW4⟩ : ∃ W4, W4 = (wr.alloc (.cells #[.int .i64 x.f0, .slice A2 x.f1.length e2] 55)).alloc (.cells #[.int .i64 y.f0, .slice B2 y.f1.length f2] 55) := ⟨_, rfl⟩
    have b4 : Below wr.heap.size wr W4 := by rw [hW4]; exact below_then (alloc_below wr _) (by rw [World.size_alloc]; omega) (alloc_below _ _)
    have HO := Lib.hid (same2_calls x y A2 e2 B2 f2 g0 W4 (cell_keep (cell_keep HC.out HB.out) b4) (Kd.C_below hi2_ b4) hl2 (Kd.C_below hj2_ b4) hm2 hsm)
    have y0a := cell_keep y0 (alloc_below wr (.cells #[.int .i64 x.f0, .slice A2 x.f1.length e2] 55))
    have y1a := cell_keep y1 (alloc_below wr (.cells #[.int .i64 x.f0, .slice A2 x.f1.length e2] 55))
    have HST := Lib.hid hstep; have HW := Lib.hid hw1; have HI2 := Lib.hid hi2; have HW4 := Lib.hid hW4; have HB4 := Lib.hid b4
    clear hX hY hsm hstep hw1 hi3 hi2_ hj2_ hi1 hi2 hW4 b4
    generalize chainEq x y = b at *
    go_wp2_with fail
    rw [← HW4.out]
    refine HO.out.mono ?_
    rintro e w5 ⟨rfl, hb5⟩
    have HB5 := Lib.hid (below_then (below_then HB.out HB.out.size HB4.out) (Nat.le_trans HB.out.size HB4.out.size) hb5)
    clear hb5 HO x0 x1 y0 y1 y0a y1a
    cases b
    ·have HE : Hid (F = false) := Lib.hid (by rw [HST.out]; rfl)
     go_wp2_with fail
     go_ret
     exact ⟨by rw [HE.out]; rfl, HB5.out⟩
    ·have HE : Hid (F = eqL chainEq (l.drop (i + 1)) (m.drop (i + 1))) := Lib.hid (by rw [HST.out]; rfl)
     go_wp2_with fail
     go_roundg g
     case measure => have := HI2.out; omega
     case rel => exact ⟨i + 1, (by first | rw [HW.out] | rfl | (congr 1; omega)), Lib.hid ⟨by omega, by have := HI2.out; omega, HE.out⟩, HB5⟩
   ·have q3 : decide (i < l.length) = false := decide_eq_false c1_
    have q3i : decide ((i : Int) < (l.length : Int)) = false := decide_eq_false (by omega)
    have HE : Hid (F = true) := Lib.hid (by rw [hi3, List.drop_eq_nil_of_le (by omega), List.drop_eq_nil_of_le (by have := HNE.out; omega), eqL])
    clear hi3 hi1 hi2 c1_
    go_wp2_with fail
    go_ret
    exact ⟨by rw [HE.out]; rfl, HB.out⟩
 ·rw [eqL_len l m hne]
  have n1 : (l.length != m.length) = true := bne_iff_ne.2 hne
  have n1i : ((l.length : Int) != (m.length : Int)) = true := bne_iff_ne.2 (by omega)
  clear hr hm hc hs hne
  go_enter Try.func49, Try.ntmps49
  go_wp2_with fail
  go_ret
  exact ⟨rfl, Below.refl _ _⟩
set_option maxHeartbeats 4000000 in
set_option maxRecDepth 1000000 in
theorem same_calls (A0 : Option Addr) (c0 : Nat) (l0 : List S55) (A1 : Option Addr) (c1 : Nat) (l1 : List S61) (st : Int) (B0 : Option Addr) (d0 : Nat) (m0 : List S55) (B1 : Option Addr) (d1 : Nat) (m1 : List S61) (st' : Int) (w : World)
  (hr0 : Kd.C k55 w A0 l0.length l0) (hc0 : l0.length ≤ c0) (hr1 : Kd.C k61 w A1 l1.length l1) (hc1 : l1.length ≤ c1) (hm0 : Kd.C k55 w B0 m0.length m0) (hd0 : m0.length ≤ d0) (hm1 : Kd.C k61 w B1 m1.length m1) (hd1 : m1.length ≤ d1) (hsm : smallS l0 l1 = true) :
  Calls Try.prog 21 #[.agg #[.slice A0 l0.length c0, .slice A1 l1.length c1, .int .i64 st], .agg #[.slice B0 m0.length d0, .slice B1 m1.length d1, .int .i64 st']] w fun e w' => e = .returned (.bool (storeEq l0 l1 st m0 m1 st')) ∧ Below w.heap.size w w' := by
 have hsl : l0.length ≤ 10000 ∧ l1.length ≤ 10000 ∧ ∀ c ∈ l0, smallC c = true := by
  unfold smallS at hsm
  simp only [Bool.and_eq_true, decide_eq_true_eq, List.all_eq_true] at hsm
  exact hsm
 obtain ⟨W1, hW1⟩ : ∃ W1, W1 = ((w.alloc (.cells #[.slice A0 l0.length c0, .slice A1 l1.length c1, .int .i64 st] 25)).alloc (.cells #[.slice B0 m0.length d0, .slice B1 m1.length d1, .int .i64 st'] 25)).alloc (.cells #[.func (.func 44) #[] #[]] 77) := ⟨_, rfl⟩
 obtain ⟨W2, hW2⟩ : ∃ W2, W2 = (w.alloc (.cells #[.slice A0 l0.length c0, .slice A1 l1.length c1, .int .i64 st] 25)).alloc (.cells #[.slice B0 m0.length d0, .slice B1 m1.length d1, .int .i64 st'] 25) := ⟨_, rfl⟩
 have b2 : Below w.heap.size w W2 := by rw [hW2]; exact below_then (alloc_below w _) (by rw [World.size_alloc]; omega) (alloc_below _ _)
 have hz2 : W2.heap.size = w.heap.size + 2 := by rw [hW2, World.size_alloc, World.size_alloc]
 have hx2 : W2.heap[w.heap.size]? = some (.cells #[.slice A0 l0.length c0, .slice A1 l1.length c1, .int .i64 st] 25 (0, 0)) := by rw [hW2]; exact blk_below (heap_alloc_new w _) (alloc_below _ _)
 have hy2 : W2.heap[w.heap.size + 1]? = some (.cells #[.slice B0 m0.length d0, .slice B1 m1.length d1, .int .i64 st'] 25 (0, 0)) := by
  rw [hW2]; have h := heap_alloc_new (w.alloc (.cells #[.slice A0 l0.length c0, .slice A1 l1.length c1, .int .i64 st] 25)) (.cells #[.slice B0 m0.length d0, .slice B1 m1.length d1, .int .i64 st'] 25)
  rw [World.size_alloc] at h; exact h
 rw [← hW2] at hW1
 have b1 : Below W2.heap.size W2 W1 := by rw [hW1]; exact alloc_below W2 _
 have hf1 : W1.heap[w.heap.size + 2]? = some (.cells #[.func (.func 44) #[] #[]] 77 (0, 0)) := by rw [hW1, ← hz2]; exact heap_alloc_new W2 _
 have hx1 := blk_below hx2 b1
 have hy1 := blk_below hy2 b1
 have hB := below_then b2 b2.size b1
 have z0 : W1.cell? ⟨w.heap.size, 0, none⟩ = some (.slice A0 l0.length c0) := (blk_cell hx1 0).trans rfl
 have z1 : W1.cell? ⟨w.heap.size, 1, none⟩ = some (.slice A1 l1.length c1) := (blk_cell hx1 1).trans rfl
 have z2 : W1.cell? ⟨w.heap.size, 2, none⟩ = some (.int .i64 st) := (blk_cell hx1 2).trans rfl
 have y0 : W1.cell? ⟨w.heap.size + 1, 0, none⟩ = some (.slice B0 m0.length d0) := (blk_cell hy1 0).trans rfl
 have y1 : W1.cell? ⟨w.heap.size + 1, 1, none⟩ = some (.slice B1 m1.length d1) := (blk_cell hy1 1).trans rfl
 have y2 : W1.cell? ⟨w.heap.size + 1, 2, none⟩ = some (.int .i64 st') := (blk_cell hy1 2).trans rfl
 have f0 : W1.cell? ⟨w.heap.size + 2, 0, none⟩ = some (.func (.func 44) #[] #[]) := (blk_cell hf1 0).trans rfl
 have HCN := Lib.hid (Y.api_Count.calls 10001 A1 c1 l1 B1 d1 m1 (eqL cntEq l1 m1) W1 (Kd.C_below hr1 hB) hc1 (Kd.C_below hm1 hB) hd1 (go_cntsEq l1 m1 hsl.2.1 10001 (by omega)))
 have HCH := Lib.hid (fun (W : World) (hb : Below W1.heap.size W1 W) => equal_calls A0 c0 l0 B0 d0 m0 (w.heap.size + 2) W (cell_keep f0 hb) (Kd.C_below hr0 (below_then hB hB.size hb)) (Kd.C_below hm0 (below_then hB hB.size hb)) hsl.1 hsl.2.2)
 have hu : storeEq l0 l1 st m0 m1 st' = ((st == st') && (eqL cntEq l1 m1 && eqL chainEq l0 m0)) := rfl
 rw [hu]
 have HB := Lib.hid hB; have HW1 := Lib.hid hW1; have HW2 := Lib.hid hW2
 clear hr0 hr1 hm0 hm1 hc0 hc1 hd0 hd1 hsm hsl hW1 hW2 b1 b2 hz2 hx2 hy2 hf1 hx1 hy1 hB hu
 generalize eqL cntEq l1 m1 = q at *
 generalize eqL chainEq l0 m0 = p at *
 cases h1 : (st == st')
 ·go_enter Try.func21, Try.ntmps21
  go_wp2_with fail
  go_ret
  exact ⟨rfl, by rw [← HW2.out, ← HW1.out]; exact HB.out⟩
 ·go_enter Try.func21, Try.ntmps21
  go_wp2_with fail
  rw [← HW2.out, ← HW1.out]
  refine HCN.out.mono ?_
  rintro e w3 ⟨rfl, hd3⟩
  have hb3 := hd3.below
  have HB3 := Lib.hid (below_then HB.out HB.out.size hb3)
  have x0 := cell_keep z0 hb3; have x1 := cell_keep y0 hb3
  have HCH3 := Lib.hid (HCH.out w3 hb3)
  clear hd3 hb3 HCN HCH z0 z1 z2 y0 y1 y2 f0
  cases q
  ·go_wp2_with fail
   go_ret
   exact ⟨rfl, HB3.out⟩
  ·go_wp2_with fail
   refine HCH3.out.mono ?_
   rintro e w4 ⟨rfl, hb4⟩
   have HB4 := Lib.hid (below_then HB3.out HB3.out.size hb4)
   clear hb4 HCH3
   go_wp2_with fail
   go_ret
   exact ⟨rfl, HB4.out⟩
def store_Same.f (l0_0 : List S55) (l0_1 : List S61) (a0_2 : Int) (l1_0 : List S55) (l1_1 : List S61) (a1_2 : Int) : Option Bool := if smallS l0_0 l0_1 = true then some (storeEq l0_0 l0_1 a0_2 l1_0 l1_1 a1_2) else none
theorem store_Same.calls (A0_0 : Option Addr) (c0_0 : Nat) (l0_0 : List S55) (A0_1 : Option Addr) (c0_1 : Nat) (l0_1 : List S61) (a0_2 : Int) (A1_0 : Option Addr) (c1_0 : Nat) (l1_0 : List S55) (A1_1 : Option Addr) (c1_1 : Nat) (l1_1 : List S61) (a1_2 : Int) (r : Bool) (w : World)
  (hr0_0 : Kd.C k55 w A0_0 l0_0.length l0_0) (hc0_0 : l0_0.length ≤ c0_0) (hr0_1 : Kd.C k61 w A0_1 l0_1.length l0_1) (hc0_1 : l0_1.length ≤ c0_1) (hr1_0 : Kd.C k55 w A1_0 l1_0.length l1_0) (hc1_0 : l1_0.length ≤ c1_0) (hr1_1 : Kd.C k61 w A1_1 l1_1.length l1_1) (hc1_1 : l1_1.length ≤ c1_1) (h : store_Same.f l0_0 l0_1 a0_2 l1_0 l1_1 a1_2 = some r) :
  Calls Try.prog 21 #[.agg #[.slice A0_0 l0_0.length c0_0, .slice A0_1 l0_1.length c0_1, .int .i64 a0_2], .agg #[.slice A1_0 l1_0.length c1_0, .slice A1_1 l1_1.length c1_1, .int .i64 a1_2]] w fun e w' => e = .returned (.bool r) ∧ Below w.heap.size w w' := by
 unfold store_Same.f at h
 split at h
 ·rename_i hs
  obtain rfl := Option.some.inj h
  exact same_calls A0_0 c0_0 l0_0 A0_1 c0_1 l0_1 a0_2 A1_0 c1_0 l1_0 A1_1 c1_1 l1_1 a1_2 w hr0_0 hc0_0 hr0_1 hc0_1 hr1_0 hc1_0 hr1_1 hc1_1 hs
 ·cases h
end Go.Proofs.Ytdkgkiemndlneaa
end

section
namespace Go.Proofs.Ytdkgkiemndlneaa
open Go.RowKit Go.Proofs.Ytdkgkiemndlneaa.Q Go.Proofs.YtdkgkiemndlneaaW.PrintWords Go.Proofs.YtdkgkiemndlneaaW.PrintLast Go.Proofs.YtdkgkiemndlneaaW.PrintMore Math Pl X
attribute [local go_sem high] Y.eqA61
set_option maxHeartbeats 8000000 in
set_option maxRecDepth 1000000 in
theorem rsame_calls (A0 : Option Addr) (c0 : Nat) (l0 : List S55) (A1 : Option Addr) (c1 : Nat) (l1 : List S61) (st : Int) (B0 : Option Addr) (d0 : Nat) (m0 : List S55) (B1 : Option Addr) (d1 : Nat) (m1 : List S61) (st' : Int) (w : World)
  (hr0 : Kd.C k55 w A0 l0.length l0) (hr1 : Kd.C k61 w A1 l1.length l1) (hm0 : Kd.C k55 w B0 m0.length m0) (hm1 : Kd.C k61 w B1 m1.length m1) (hsm : smallS l0 l1 = true) :
  Calls Try.prog 22 #[.agg #[.slice A0 l0.length c0, .slice A1 l1.length c1, .int .i64 st], .agg #[.slice B0 m0.length d0, .slice B1 m1.length d1, .int .i64 st']] w fun e w' => e = .returned (.bool (storeEq l0 l1 st m0 m1 st')) ∧ Below w.heap.size w w' := by
 have hsl : l0.length ≤ 10000 ∧ l1.length ≤ 10000 ∧ ∀ c ∈ l0, c.f1.length ≤ 10000 ∧ ∀ v ∈ c.f1, v.f2.f4.length ≤ 10000 := by
  unfold smallS at hsm
  simp only [Bool.and_eq_true, decide_eq_true_eq, List.all_eq_true] at hsm
  refine ⟨hsm.1, hsm.2.1, fun c hc => ?_⟩
  have h := hsm.2.2 c hc
  unfold smallC at h
  simp only [Bool.and_eq_true, decide_eq_true_eq, List.all_eq_true] at h
  exact h
 obtain ⟨W2, hW2⟩ : ∃ W2, W2 = (w.alloc (.cells #[.slice A0 l0.length c0, .slice A1 l1.length c1, .int .i64 st] 25)).alloc (.cells #[.slice B0 m0.length d0, .slice B1 m1.length d1, .int .i64 st'] 25) := ⟨_, rfl⟩
 have b2 : Below w.heap.size w W2 := by rw [hW2]; exact below_then (alloc_below w _) (by rw [World.size_alloc]; omega) (alloc_below _ _)
 have hx2 : W2.heap[w.heap.size]? = some (.cells #[.slice A0 l0.length c0, .slice A1 l1.length c1, .int .i64 st] 25 (0, 0)) := by rw [hW2]; exact blk_below (heap_alloc_new w _) (alloc_below _ _)
 have hy2 : W2.heap[w.heap.size + 1]? = some (.cells #[.slice B0 m0.length d0, .slice B1 m1.length d1, .int .i64 st'] 25 (0, 0)) := by
  rw [hW2]; have h := heap_alloc_new (w.alloc (.cells #[.slice A0 l0.length c0, .slice A1 l1.length c1, .int .i64 st] 25)) (.cells #[.slice B0 m0.length d0, .slice B1 m1.length d1, .int .i64 st'] 25)
  rw [World.size_alloc] at h; exact h
 obtain ⟨F, hF⟩ : ∃ F, F = storeEq l0 l1 st m0 m1 st' := ⟨_, rfl⟩
 rw [← hF]
 have hF2 : F = ((st == st') && (eqL cntEq l1 m1 && eqL chainEq l0 m0)) := hF
 have hu61 := Try.underlying61
 have HW2 := Lib.hid hW2; have HB2 := Lib.hid b2; have HX2 := Lib.hid hx2; have HY2 := Lib.hid hy2; have HSL := Lib.hid hsl; have HF := Lib.hid hF2
 have HR0 := Lib.hid (Kd.C_below hr0 b2); have HR1 := Lib.hid (Kd.C_below hr1 b2); have HM0 := Lib.hid (Kd.C_below hm0 b2); have HM1 := Lib.hid (Kd.C_below hm1 b2)
 clear hsl hsm hW2 b2 hx2 hy2 hF hF2 hr0 hr1 hm0 hm1
 by_cases h1 : st = st'
 rotate_left
 ·have n1 : (st != st') = true := bne_iff_ne.2 h1
  have HE : Hid (F = false) := Lib.hid (by rw [HF.out, beq_eq_false_iff_ne.2 h1]; rfl)
  clear h1
  go_enter Try.func22, Try.ntmps22
  go_wp2_with fail
  go_ret
  exact ⟨by rw [HE.out]; rfl, by rw [← HW2.out]; exact HB2.out⟩
 have n1 : (st != st') = false := by rw [bne_eq_false_iff_eq]; exact h1
 have HS1 := Lib.hid (beq_iff_eq.2 h1)
 clear h1
 by_cases h2 : l0.length = m0.length
 rotate_left
 ·have n2 : (l0.length != m0.length) = true := bne_iff_ne.2 h2
  have n2i : ((l0.length : Int) != (m0.length : Int)) = true := bne_iff_ne.2 (by omega)
  have HE : Hid (F = false) := Lib.hid (by rw [HF.out, eqL_len l0 m0 h2]; simp)
  clear h2
  go_enter Try.func22, Try.ntmps22
  go_wp2_with fail
  go_ret
  exact ⟨by rw [HE.out]; rfl, by rw [← HW2.out]; exact HB2.out⟩
 have n2 : (l0.length != m0.length) = false := by rw [bne_eq_false_iff_eq]; exact h2
 have n2i : ((l0.length : Int) != (m0.length : Int)) = false := by rw [bne_eq_false_iff_eq]; omega
 have HL0 := Lib.hid h2
 clear h2
 by_cases h3 : l1.length = m1.length
 rotate_left
 ·have n3 : (l1.length != m1.length) = true := bne_iff_ne.2 h3
  have n3i : ((l1.length : Int) != (m1.length : Int)) = true := bne_iff_ne.2 (by omega)
  have HE : Hid (F = false) := Lib.hid (by rw [HF.out, eqL_len l1 m1 h3]; simp)
  clear h3
  go_enter Try.func22, Try.ntmps22
  go_wp2_with fail
  go_ret
  exact ⟨by rw [HE.out]; rfl, by rw [← HW2.out]; exact HB2.out⟩
 have n3 : (l1.length != m1.length) = false := by rw [bne_eq_false_iff_eq]; exact h3
 have n3i : ((l1.length : Int) != (m1.length : Int)) = false := by rw [bne_eq_false_iff_eq]; omega
 have HL1 := Lib.hid h3
 clear h3
 obtain ⟨G1, hG1⟩ : ∃ G1, G1 = eqL cntEq (l1.drop 0) (m1.drop 0) := ⟨_, rfl⟩
 obtain ⟨G2, hG2⟩ : ∃ G2, G2 = eqL chainEq (l0.drop 0) (m0.drop 0) := ⟨_, rfl⟩
 have HF2 : Hid (F = (G1 && G2)) := Lib.hid (by rw [HF.out, HS1.out, hG1, hG2]; rfl)
 have HG1 := Lib.hid hG1; have HG2 := Lib.hid hG2
 clear hG1 hG2 HF
 go_enter Try.func22, Try.ntmps22
 go_wp2_with fail
 rw [← HW2.out]
 go_loopg [5] (l1.length + 1) (fun gk v5 wx => ∃ (i : Nat), v5 = .int .i64 (i : Int) ∧ Hid (i ≤ l1.length ∧ l1.length - i < gk ∧ G1 = eqL cntEq (l1.drop i) (m1.drop i)) ∧ Hid (Below W2.heap.size W2 wx))
 case atStart => exact ⟨0, rfl, Lib.hid ⟨by omega, by omega, HG1.out⟩, Lib.hid (Below.refl _ _)⟩
 case round =>
  obtain ⟨i, rfl, HI, HB⟩ := hrel
  obtain ⟨hi1, hi2, hi3⟩ := HI.out
  obtain ⟨wo, rfl⟩ : ∃ wo, wo = wr := ⟨wr, rfl⟩
  have hX3 := blk_below HX2.out HB.out
  have hY3 := blk_below HY2.out HB.out
  have z0 : wo.cell? ⟨w.heap.size, 0, none⟩ = some (.slice A0 l0.length c0) := (blk_cell hX3 0).trans rfl
  have z1 : wo.cell? ⟨w.heap.size, 1, none⟩ = some (.slice A1 l1.length c1) := (blk_cell hX3 1).trans rfl
  have y0 : wo.cell? ⟨w.heap.size + 1, 0, none⟩ = some (.slice B0 m0.length d0) := (blk_cell hY3 0).trans rfl
  have y1 : wo.cell? ⟨w.heap.size + 1, 1, none⟩ = some (.slice B1 m1.length d1) := (blk_cell hY3 1).trans rfl
  clear HI hX3 hY3 HG1
  obtain ⟨g, rfl⟩ : ∃ g, gk = g + 1 := ⟨gk - 1, by omega⟩
  by_cases c1_ : i < l1.length
  ·have c2_ : i < m1.length := by have := HL1.out; omega
   have q3 : decide (i < l1.length) = true := decide_eq_true c1_
   have q3i : decide ((i : Int) < (l1.length : Int)) = true := decide_eq_true (by omega)
   obtain ⟨ad, e0, x0, x1⟩ := at_T61 (Kd.C_below HR1.out HB.out) (i : Int) (by omega) (by omega)
   cases e0
   obtain ⟨bd, e0, v0, v1⟩ := at_T61 (Kd.C_below HM1.out HB.out) (i : Int) (by omega) (by omega)
   cases e0
   rw [Int.toNat_natCast] at x0 x1 v0 v1
   have hstep : G1 = (cntEq (rd_T61 l1 (i : Int)) (rd_T61 m1 (i : Int)) && eqL cntEq (l1.drop (i + 1)) (m1.drop (i + 1))) := by
    rw [hi3, List.drop_eq_getElem_cons c1_, List.drop_eq_getElem_cons c2_, eqL, rdC c1_, rdC c2_]
   have hw1 : wrap64 ((i : Int) + 1) = ((i + 1 : Nat) : Int) := by rw [w64 (by have := HSL.out.2.1; omega) (by have := HSL.out.2.1; omega)]; omega
   have p3 := eq_true (show (0 : Int) ≤ (i : Int) by omega)
   have q3e := eq_true (show (i : Int) < (l1.length : Int) by omega)
   have q3f := eq_true (show (i : Int) < (m1.length : Int) by omega)
   have q3g := eq_true c2_
   have q3h := eq_true c1_
   generalize rd_T61 l1 (i : Int) = x at *
   generalize rd_T61 m1 (i : Int) = y at *
   have HST := Lib.hid hstep; have HW := Lib.hid hw1; have HI2 := Lib.hid hi2; have HB3 := Lib.hid (below_then HB2.out HB2.out.size HB.out)
   clear hstep hw1 hi3 hi1 hi2
   have hce : cntEq x y = !(!(x.f0 == y.f0) || (!(x.f1 == y.f1))) := by unfold cntEq; simp
   cases hc : (!(x.f0 == y.f0) || (!(x.f1 == y.f1)))
   ·have HE : Hid (G1 = eqL cntEq (l1.drop (i + 1)) (m1.drop (i + 1))) := Lib.hid (by rw [HST.out, hce, hc]; rfl)
    clear hce
    go_wp2_with fail
    go_quiet (fail)
    go_wp2_with fail
    go_roundg g
    case measure => have := HI2.out; omega
    case rel => exact ⟨i + 1, (by first | rw [HW.out] | rfl | (congr 1; omega)), Lib.hid ⟨by omega, by have := HI2.out; omega, HE.out⟩, Lib.hid (zqe HB.out _)⟩
   ·have HE : Hid (F = false) := Lib.hid (by rw [HF2.out, HST.out, hce, hc]; rfl)
    clear hce
    go_wp2_with fail
    go_quiet (fail)
    go_wp2_with fail
    go_ret
    exact ⟨by rw [HE.out]; rfl, zqe HB3.out _⟩
  ·have q3 : decide (i < l1.length) = false := decide_eq_false c1_
   have q3i : decide ((i : Int) < (l1.length : Int)) = false := decide_eq_false (by omega)
   have HE : Hid (F = G2) := Lib.hid (by rw [HF2.out, hi3, List.drop_eq_nil_of_le (by omega), List.drop_eq_nil_of_le (by have := HL1.out; omega), eqL, Bool.true_and])
   clear hi3 hi1 hi2 c1_ HF2
   go_wp2_with fail
   go_loopg [6] (l0.length + 1) (fun gk v6 wx => ∃ (i : Nat), v6 = .int .i64 (i : Int) ∧ Hid (i ≤ l0.length ∧ l0.length - i < gk ∧ G2 = eqL chainEq (l0.drop i) (m0.drop i)) ∧ Hid (Below W2.heap.size W2 wx))
   case atStart => exact ⟨0, rfl, Lib.hid ⟨by omega, by omega, HG2.out⟩, HB⟩
   case round =>
    clear z0 z1 y0 y1 HB q3 q3i HG2
    obtain ⟨i, rfl, HI, HB⟩ := hrel
    obtain ⟨hi1, hi2, hi3⟩ := HI.out
    obtain ⟨wo, rfl⟩ : ∃ wo, wo = wr := ⟨wr, rfl⟩
    have hX3 := blk_below HX2.out HB.out
    have hY3 := blk_below HY2.out HB.out
    have z0 : wo.cell? ⟨w.heap.size, 0, none⟩ = some (.slice A0 l0.length c0) := (blk_cell hX3 0).trans rfl
    have y0 : wo.cell? ⟨w.heap.size + 1, 0, none⟩ = some (.slice B0 m0.length d0) := (blk_cell hY3 0).trans rfl
    clear HI hX3 hY3
    obtain ⟨g, rfl⟩ : ∃ g, gk = g + 1 := ⟨gk - 1, by omega⟩
    have HB3 := Lib.hid (below_then HB2.out HB2.out.size HB.out)
    by_cases c1_ : i < l0.length
    rotate_left
    ·have q3 : decide (i < l0.length) = false := decide_eq_false c1_
     have q3i : decide ((i : Int) < (l0.length : Int)) = false := decide_eq_false (by omega)
     have HE2 : Hid (F = true) := Lib.hid (by rw [HE.out, hi3, List.drop_eq_nil_of_le (by omega), List.drop_eq_nil_of_le (by have := HL0.out; omega), eqL])
     clear hi3 hi1 hi2 c1_
     go_wp2_with fail
     go_ret
     exact ⟨by rw [HE2.out]; rfl, HB3.out⟩
    have c2_ : i < m0.length := by have := HL0.out; omega
    have q3 : decide (i < l0.length) = true := decide_eq_true c1_
    have q3i : decide ((i : Int) < (l0.length : Int)) = true := decide_eq_true (by omega)
    obtain ⟨ad0, A2, e2, e0, x0, x1, hl2, hi2_⟩ := at_T55 (Kd.C_below HR0.out HB.out) (i : Int) (by omega) (by omega)
    cases e0
    obtain ⟨bd0, B2, f2, e0, v0, v1, hm2, hj2_⟩ := at_T55 (Kd.C_below HM0.out HB.out) (i : Int) (by omega) (by omega)
    cases e0
    rw [Int.toNat_natCast] at x0 x1 v0 v1
    have hstep : G2 = (chainEq (rd_T55 l0 (i : Int)) (rd_T55 m0 (i : Int)) && eqL chainEq (l0.drop (i + 1)) (m0.drop (i + 1))) := by
     rw [hi3, List.drop_eq_getElem_cons c1_, List.drop_eq_getElem_cons c2_, eqL, rdH c1_, rdH c2_]
    have hsz := HSL.out.2.2 (rd_T55 l0 (i : Int)) (by rw [rdH c1_]; exact List.getElem_mem _)
    have hw1 : wrap64 ((i : Int) + 1) = ((i + 1 : Nat) : Int) := by rw [w64 (by have := HSL.out.1; omega) (by have := HSL.out.1; omega)]; omega
    have p3 := eq_true (show (0 : Int) ≤ (i : Int) by omega)
    have q3e := eq_true (show (i : Int) < (l0.length : Int) by omega)
    have q3f := eq_true (show (i : Int) < (m0.length : Int) by omega)
    have q3g := eq_true c2_
    have q3h := eq_true c1_
    generalize rd_T55 l0 (i : Int) = X at *
    generalize rd_T55 m0 (i : Int) = Y at *
    obtain ⟨W3, hW3⟩ : ∃ W3, W3 = wo.alloc (.cells #[.int .i64 X.f0, .slice A2 X.f1.length e2] 55) := ⟨_, rfl⟩
    have b3 : Below wo.heap.size wo W3 := by rw [hW3]; exact alloc_below wo _
    have hz3 : W3.heap.size = wo.heap.size + 1 := by rw [hW3, World.size_alloc]
    have hx3 : W3.heap[wo.heap.size]? = some (.cells #[.int .i64 X.f0, .slice A2 X.f1.length e2] 55 (0, 0)) := by rw [hW3]; exact heap_alloc_new wo _
    obtain ⟨W4, hW4⟩ : ∃ W4, W4 = W3.alloc (.cells #[.int .i64 Y.f0, .slice B2 Y.f1.length f2] 55) := ⟨_, rfl⟩
    have b4' : Below W3.heap.size W3 W4 := by rw [hW4]; exact alloc_below W3 _
    have b4 := below_then b3 b3.size b4'
    have hx4 := blk_below hx3 b4'
    have hy4 : W4.heap[wo.heap.size + 1]? = some (.cells #[.int .i64 Y.f0, .slice B2 Y.f1.length f2] 55 (0, 0)) := by rw [hW4, ← hz3]; exact heap_alloc_new W3 _
    have z3 := cell_keep y0 b3
    have v0a := cell_keep v0 b3
    have v1a := cell_keep v1 b3
    rw [hW3] at z3 v0a v1a
    have g0 : W4.cell? ⟨wo.heap.size, 0, none⟩ = some (.int .i64 X.f0) := (blk_cell hx4 0).trans rfl
    have g1 : W4.cell? ⟨wo.heap.size, 1, none⟩ = some (.slice A2 X.f1.length e2) := (blk_cell hx4 1).trans rfl
    have k0 : W4.cell? ⟨wo.heap.size + 1, 0, none⟩ = some (.int .i64 Y.f0) := (blk_cell hy4 0).trans rfl
    have k1 : W4.cell? ⟨wo.heap.size + 1, 1, none⟩ = some (.slice B2 Y.f1.length f2) := (blk_cell hy4 1).trans rfl
    have HX4 := Lib.hid hx4; have HY4 := Lib.hid hy4; have HW3 := Lib.hid hW3; have HW4 := Lib.hid hW4; have HB4 := Lib.hid b4
    have HST := Lib.hid hstep; have HW := Lib.hid hw1; have HI2 := Lib.hid hi2; have HSZ := Lib.hid hsz
    have HRX := Lib.hid (Kd.C_below hi2_ b4); have HRY := Lib.hid (Kd.C_below hj2_ b4)
    have HBB := Lib.hid (below_then HB3.out HB3.out.size b4)
    have HBW := Lib.hid (below_then HB.out HB.out.size b4)
    clear hstep hw1 hi3 hi1 hi2 hsz hi2_ hj2_ hx3 hx4 hy4 hz3 hW3 hW4 b3 b4' b4 hl2 hm2
    by_cases d1_ : X.f0 = Y.f0
    rotate_left
    ·have D1 : (X.f0 != Y.f0) = true := bne_iff_ne.2 d1_
     have HE2 : Hid (F = false) := Lib.hid (by rw [HE.out, HST.out, chainEq, beq_eq_false_iff_ne.2 d1_]; rfl)
     clear d1_
     go_wp2_with fail
     rw [← HW3.out, ← HW4.out]
     go_ret
     exact ⟨by rw [HE2.out]; rfl, HBB.out⟩
    have D1 : (X.f0 != Y.f0) = false := by rw [bne_eq_false_iff_eq]; exact d1_
    have HD1 := Lib.hid (beq_iff_eq.2 d1_)
    clear d1_
    by_cases d2_ : X.f1.length = Y.f1.length
    rotate_left
    ·have D2 : (X.f1.length != Y.f1.length) = true := bne_iff_ne.2 d2_
     have D2i : ((X.f1.length : Int) != (Y.f1.length : Int)) = true := bne_iff_ne.2 (by omega)
     have HE2 : Hid (F = false) := Lib.hid (by rw [HE.out, HST.out, chainEq, eqL_len _ _ d2_]; simp)
     clear d2_
     go_wp2_with fail
     rw [← HW3.out, ← HW4.out]
     go_ret
     exact ⟨by rw [HE2.out]; rfl, HBB.out⟩
    have D2 : (X.f1.length != Y.f1.length) = false := by rw [bne_eq_false_iff_eq]; exact d2_
    have D2i : ((X.f1.length : Int) != (Y.f1.length : Int)) = false := by rw [bne_eq_false_iff_eq]; omega
    have HD2 := Lib.hid d2_
    clear d2_
    obtain ⟨G3, hG3⟩ : ∃ G3, G3 = eqL verEq (X.f1.drop 0) (Y.f1.drop 0) := ⟨_, rfl⟩
    have HST2 : Hid (G2 = (G3 && eqL chainEq (l0.drop (i + 1)) (m0.drop (i + 1)))) := Lib.hid (by rw [HST.out, chainEq, HD1.out, hG3]; rfl)
    have HG3 := Lib.hid hG3
    clear hG3 HST
    go_wp2_with fail
    rw [← HW3.out, ← HW4.out]
    go_loopg [9] (X.f1.length + 1) (fun gk v9 wx => ∃ (j : Nat), v9 = .int .i64 (j : Int) ∧ Hid (j ≤ X.f1.length ∧ X.f1.length - j < gk ∧ G3 = eqL verEq (X.f1.drop j) (Y.f1.drop j)) ∧ Hid (Below W4.heap.size W4 wx))
    case atStart => exact ⟨0, rfl, Lib.hid ⟨by omega, by omega, HG3.out⟩, Lib.hid (Below.refl _ _)⟩
    case round =>
     obtain ⟨j, rfl, HJ, HBJ⟩ := hrel
     obtain ⟨hj1, hj2, hj3⟩ := HJ.out
     obtain ⟨wz, rfl⟩ : ∃ wz, wz = wr := ⟨wr, rfl⟩
     clear HJ z0 y0 z3 v0a v1a g0 g1 k0 k1 x0 x1 v0 v1 p3 q3e q3f q3g q3h q3 q3i HG3
     have hxz := blk_below HX4.out HBJ.out
     have hyz := blk_below HY4.out HBJ.out
     have g1 : wz.cell? ⟨wo.heap.size, 1, none⟩ = some (.slice A2 X.f1.length e2) := (blk_cell hxz 1).trans rfl
     have k1 : wz.cell? ⟨wo.heap.size + 1, 1, none⟩ = some (.slice B2 Y.f1.length f2) := (blk_cell hyz 1).trans rfl
     obtain ⟨g_, rfl⟩ : ∃ g_, gk = g_ + 1 := ⟨gk - 1, by omega⟩
     have HBB3 := Lib.hid (below_then HBB.out HBB.out.size HBJ.out)
     have HBW3 := Lib.hid (below_then HBW.out HBW.out.size HBJ.out)
     by_cases d3_ : j < X.f1.length
     rotate_left
     ·have r3 : decide (j < X.f1.length) = false := decide_eq_false d3_
      have r3i : decide ((j : Int) < (X.f1.length : Int)) = false := decide_eq_false (by omega)
      have HE3 : Hid (G2 = eqL chainEq (l0.drop (i + 1)) (m0.drop (i + 1))) := Lib.hid (by rw [HST2.out, hj3, List.drop_eq_nil_of_le (by omega), List.drop_eq_nil_of_le (by have := HD2.out; omega), eqL]; rfl)
      clear hj3 hj1 hj2 d3_ hxz hyz
      go_wp2_with fail
      go_roundg g
      case measure => have := HI2.out; omega
      case rel => exact ⟨i + 1, (by first | rw [HW.out] | rfl | (congr 1; omega)), Lib.hid ⟨by omega, by have := HI2.out; omega, HE3.out⟩, HBW3⟩
     have d4_ : j < Y.f1.length := by have := HD2.out; omega
     have r3 : decide (j < X.f1.length) = true := decide_eq_true d3_
     have r3i : decide ((j : Int) < (X.f1.length : Int)) = true := decide_eq_true (by omega)
     obtain ⟨ad, A6, c6, e0, a0, a1, a2, a3, a4, a5, a6, hl6, hi6⟩ := at_T58 (Kd.C_below HRX.out HBJ.out) (j : Int) (by omega) (by omega)
     cases e0
     obtain ⟨bd, B6, d6, e0, b0, b1, b2, b3, b4, b5, b6, hm6, hj6⟩ := at_T58 (Kd.C_below HRY.out HBJ.out) (j : Int) (by omega) (by omega)
     cases e0
     rw [Int.toNat_natCast] at a0 a1 a2 a3 a4 a5 a6 b0 b1 b2 b3 b4 b5 b6
     have hstep : G3 = (verEq (rd_T58 X.f1 (j : Int)) (rd_T58 Y.f1 (j : Int)) && eqL verEq (X.f1.drop (j + 1)) (Y.f1.drop (j + 1))) := by
      rw [hj3, List.drop_eq_getElem_cons d3_, List.drop_eq_getElem_cons d4_, eqL, rdV d3_, rdV d4_]
     have hf4 := HSZ.out.2 (rd_T58 X.f1 (j : Int)) (by rw [rdV d3_]; exact List.getElem_mem _)
     have p3 := eq_true (show (0 : Int) ≤ (j : Int) by omega)
     have q3e := eq_true (show (j : Int) < (X.f1.length : Int) by omega)
     have q3f := eq_true (show (j : Int) < (Y.f1.length : Int) by omega)
     have q3g := eq_true d4_
     have q3h := eq_true d3_
     have hj10 : j < 10000 := Nat.lt_of_lt_of_le d3_ HSZ.out.1
     have HWJ : Hid (wrap64 ((j : Int) + 1) = ((j + 1 : Nat) : Int)) := Lib.hid ((w64 (n := (j : Int) + 1) (by omega) (by omega)).trans (by omega))
     generalize rd_T58 X.f1 (j : Int) = V at *
     generalize rd_T58 Y.f1 (j : Int) = U at *
     have HS1 : Hid (wz.drew.cell? ⟨wo.heap.size, 1, none⟩ = some (.slice (some ad) X.f1.length e2) ∧ wz.drew.cell? ⟨wo.heap.size + 1, 1, none⟩ = some (.slice (some bd) Y.f1.length f2)) := Lib.hid ⟨g1, k1⟩
     have HV : Hid (wz.drew.cell? ⟨(ad.add (j * 7)).block, (ad.add (j * 7)).off + 2, none⟩ = some (.int .i64 V.f2.f0) ∧ wz.drew.cell? ⟨(ad.add (j * 7)).block, (ad.add (j * 7)).off + 3, none⟩ = some (.int .i64 V.f2.f1) ∧ wz.drew.cell? ⟨(ad.add (j * 7)).block, (ad.add (j * 7)).off + 4, none⟩ = some (.int .i64 V.f2.f2) ∧ wz.drew.cell? ⟨(ad.add (j * 7)).block, (ad.add (j * 7)).off + 5, none⟩ = some (.string V.f2.f3) ∧ wz.drew.cell? ⟨(ad.add (j * 7)).block, (ad.add (j * 7)).off + 6, none⟩ = some (.slice A6 V.f2.f4.length c6)) := Lib.hid ⟨a2, a3, a4, a5, a6⟩
     have HU : Hid (wz.drew.cell? ⟨(bd.add (j * 7)).block, (bd.add (j * 7)).off + 2, none⟩ = some (.int .i64 U.f2.f0) ∧ wz.drew.cell? ⟨(bd.add (j * 7)).block, (bd.add (j * 7)).off + 3, none⟩ = some (.int .i64 U.f2.f1) ∧ wz.drew.cell? ⟨(bd.add (j * 7)).block, (bd.add (j * 7)).off + 4, none⟩ = some (.int .i64 U.f2.f2) ∧ wz.drew.cell? ⟨(bd.add (j * 7)).block, (bd.add (j * 7)).off + 5, none⟩ = some (.string U.f2.f3) ∧ wz.drew.cell? ⟨(bd.add (j * 7)).block, (bd.add (j * 7)).off + 6, none⟩ = some (.slice B6 U.f2.f4.length d6)) := Lib.hid ⟨b2, b3, b4, b5, b6⟩
     have HSM := Lib.hid (copyholdref07_Same.calls 10001 V.f2.f0 V.f2.f1 V.f2.f2 V.f2.f3 A6 c6 V.f2.f4 U.f2.f0 U.f2.f1 U.f2.f2 U.f2.f3 B6 d6 U.f2.f4 (sameN V.f2 U.f2) wz.drew (Kd.C_drew hi6) hl6 (Kd.C_drew hj6) hm6 (ref_sameN V.f2 U.f2 (by omega) 10001 (by omega)))
     have HD0 := Lib.hid (And.intro a0 (And.intro a1 (And.intro b0 b1)))
     have HST3 := Lib.hid hstep; have HJ2 := Lib.hid hj2
     have hve : verEq V U = ((V.f0 == U.f0) && ((V.f1 == U.f1) && sameN V.f2 U.f2)) := rfl
     have HVE := Lib.hid hve
     clear hstep hj10 hj3 hj1 hj2 hxz hyz hi6 hj6 hl6 hm6 hf4 a0 a1 a2 a3 a4 a5 a6 b0 b1 b2 b3 b4 b5 b6 hve
     generalize sameN V.f2 U.f2 = nn at *
     go_wp2_with fail
     refine start_ (n := 14) (S := fun w' => w'.cell? ⟨wo.heap.size, 1, none⟩ = some (.slice (some ad) X.f1.length e2) ∧ w'.cell? ⟨wo.heap.size + 1, 1, none⟩ = some (.slice (some bd) Y.f1.length f2) ∧ w'.cell? ⟨(ad.add (j * 7)).block, (ad.add (j * 7)).off + 2, none⟩ = some (.int .i64 V.f2.f0) ∧ w'.cell? ⟨(ad.add (j * 7)).block, (ad.add (j * 7)).off + 3, none⟩ = some (.int .i64 V.f2.f1) ∧ w'.cell? ⟨(ad.add (j * 7)).block, (ad.add (j * 7)).off + 4, none⟩ = some (.int .i64 V.f2.f2) ∧ w'.cell? ⟨(ad.add (j * 7)).block, (ad.add (j * 7)).off + 5, none⟩ = some (.string V.f2.f3) ∧ w'.cell? ⟨(ad.add (j * 7)).block, (ad.add (j * 7)).off + 6, none⟩ = some (.slice A6 V.f2.f4.length c6) ∧ w'.cell? ⟨(bd.add (j * 7)).block, (bd.add (j * 7)).off + 2, none⟩ = some (.int .i64 U.f2.f0) ∧ w'.cell? ⟨(bd.add (j * 7)).block, (bd.add (j * 7)).off + 3, none⟩ = some (.int .i64 U.f2.f1) ∧ w'.cell? ⟨(bd.add (j * 7)).block, (bd.add (j * 7)).off + 4, none⟩ = some (.int .i64 U.f2.f2) ∧ w'.cell? ⟨(bd.add (j * 7)).block, (bd.add (j * 7)).off + 5, none⟩ = some (.string U.f2.f3) ∧ w'.cell? ⟨(bd.add (j * 7)).block, (bd.add (j * 7)).off + 6, none⟩ = some (.slice B6 U.f2.f4.length d6)) (ds := []) #[false, false, false, false, false, false, false, false, false, false, false, false, false, false] (by kernel_rfl) rfl rfl ⟨HS1.out.1, HS1.out.2, HV.out.1, HV.out.2.1, HV.out.2.2.1, HV.out.2.2.2.1, HV.out.2.2.2.2, HU.out.1, HU.out.2.1, HU.out.2.2.1, HU.out.2.2.2.1, HU.out.2.2.2.2⟩ (fun hHeld => ?_)
     refine pure_ (i := 0) (N := some 90) (v := ?_) (a' := ?_) (zb 14 1) rfl rfl (by kernel_rfl) (fun _ _ _ h => h) (Or.inl ⟨by rfl, ?_⟩) ?_ ?_
     (rotate_left; · (intro w'; go_simp; with_reducible rfl))
     (rotate_left; · (simp only [Act.put, zqk, zql, zqm, i64_w, i32_w]; rfl))
     refine pure_ (i := 2) (N := some 92) (v := ?_) (a' := ?_) (zb 14 5) rfl rfl (by kernel_rfl) (fun _ _ _ h => h) (Or.inl ⟨by rfl, ?_⟩) ?_ ?_
     (rotate_left; · (intro w'; go_simp; with_reducible rfl))
     (rotate_left; · (simp only [Act.put, zqk, zql, zqm, i64_w, i32_w]; rfl))
     refine pure_ (i := 6) (N := some 96) (v := ?_) (a' := ?_) (zb 14 69) rfl rfl (by kernel_rfl) (fun _ _ _ h => h) (Or.inl ⟨by rfl, ?_⟩) ?_ ?_
     (rotate_left; · (intro w'; go_simp; with_reducible rfl))
     (rotate_left; · (simp only [Act.put, zqk, zql, zqm, i64_w, i32_w]; rfl))
     refine pure_ (i := 8) (N := some 98) (v := ?_) (a' := ?_) (zb 14 325) rfl rfl (by kernel_rfl) (fun _ _ _ h => h) (Or.inl ⟨by rfl, ?_⟩) ?_ ?_
     (rotate_left; · (intro w'; go_simp; with_reducible rfl))
     (rotate_left; · (simp only [Act.put, zqk, zql, zqm, i64_w, i32_w]; rfl))
     refine take_ (i := 1) (N := some 91) (v := ?_) (a' := ?_) (zb 14 327) rfl rfl (by kernel_rfl) (fun _ _ _ h => h) (Or.inl ⟨by rfl, ?_⟩) hHeld ?_ ?_
     rotate_left
     ·rintro w' ⟨s0, s1, s2, s3, s4, s5, s6, s7, s8, s9, s10, s11⟩
      go_simp
      with_reducible rfl
     (rotate_left; · (simp only [Act.put, zqk, zql, zqm, i64_w, i32_w]; rfl))
     refine pure_ (i := 3) (N := some 93) (v := ?_) (a' := ?_) (zb 14 335) rfl rfl (by kernel_rfl) (fun _ _ _ h => h) (Or.inl ⟨by rfl, ?_⟩) ?_ ?_
     (rotate_left; · (intro w'; go_simp; with_reducible rfl))
     (rotate_left; · (simp only [Act.put, zqk, zql, zqm, i64_w, i32_w]; rfl))
     refine pure_ (i := 4) (N := some 94) (v := ?_) (a' := ?_) (zb 14 351) rfl rfl (by kernel_rfl) (fun _ _ _ h => h) (Or.inl ⟨by rfl, ?_⟩) ?_ ?_
     (rotate_left; · (intro w'; go_simp; with_reducible rfl))
     (rotate_left; · (simp only [Act.put, zqk, zql, zqm, i64_w, i32_w]; rfl))
     refine take_ (i := 5) (N := some 95) (v := ?_) (a' := ?_) (zb 14 383) rfl rfl (by kernel_rfl) (fun _ _ _ h => h) (Or.inl ⟨by rfl, ?_⟩) hHeld ?_ ?_
     rotate_left
     ·rintro w' ⟨s0, s1, s2, s3, s4, s5, s6, s7, s8, s9, s10, s11⟩
      go_simp
      with_reducible rfl
     (rotate_left; · (simp only [Act.put, zqk, zql, zqm, i64_w, i32_w]; rfl))
     refine take_ (i := 7) (N := some 97) (v := ?_) (a' := ?_) (zb 14 511) rfl rfl (by kernel_rfl) (fun _ _ _ h => h) (Or.inl ⟨by rfl, ?_⟩) hHeld ?_ ?_
     rotate_left
     ·rintro w' ⟨s0, s1, s2, s3, s4, s5, s6, s7, s8, s9, s10, s11⟩
      go_simp
      with_reducible rfl
     (rotate_left; · (simp only [Act.put, zqk, zql, zqm, i64_w, i32_w]; rfl))
     refine pure_ (i := 9) (N := some 99) (v := ?_) (a' := ?_) (zb 14 1023) rfl rfl (by kernel_rfl) (fun _ _ _ h => h) (Or.inl ⟨by rfl, ?_⟩) ?_ ?_
     (rotate_left; · (intro w'; go_simp; with_reducible rfl))
     (rotate_left; · (simp only [Act.put, zqk, zql, zqm, i64_w, i32_w]; rfl))
     refine pure_ (i := 10) (N := some 100) (v := ?_) (a' := ?_) (zb 14 2047) rfl rfl (by kernel_rfl) (fun _ _ _ h => h) (Or.inl ⟨by rfl, ?_⟩) ?_ ?_
     (rotate_left; · (intro w'; go_simp; with_reducible rfl))
     (rotate_left; · (simp only [Act.put, zqk, zql, zqm, i64_w, i32_w]; rfl))
     refine take_ (i := 11) (N := some 101) (v := ?_) (a' := ?_) (zb 14 4095) rfl rfl (by kernel_rfl) (fun _ _ _ h => h) (Or.inl ⟨by rfl, ?_⟩) hHeld ?_ ?_
     rotate_left
     ·rintro w' ⟨s0, s1, s2, s3, s4, s5, s6, s7, s8, s9, s10, s11⟩
      go_simp
      with_reducible rfl
     (rotate_left; · (simp only [Act.put, zqk, zql, zqm, i64_w, i32_w]; rfl))
     refine one_ (i := 12) (N := some 102) (zb 14 8191) rfl rfl (by kernel_rfl) (by decide) (fun K hK => ?_)
     refine goes_ Try.func30 (by kernel_rfl) rfl #[.agg #[.int .i64 V.f2.f0, .int .i64 V.f2.f1, .int .i64 V.f2.f2, .string V.f2.f3, .slice A6 V.f2.f4.length c6], .agg #[.int .i64 U.f2.f0, .int .i64 U.f2.f1, .int .i64 U.f2.f2, .string U.f2.f3, .slice B6 U.f2.f4.length d6]] (by rfl) rfl rfl (by simp only [List.map_toArray, List.map_cons, List.map_nil]; rfl) ?_
     with_reducible refine (HSM.out).mono ?_
     rintro e w5 ⟨rfl, hb5⟩
     refine ⟨_, rfl, ?_⟩
     have HB5 := Lib.hid hb5
     refine hK.out _ _ ⟨cell_keep (HS1.out.1) HB5.out, cell_keep (HS1.out.2) HB5.out, cell_keep (HV.out.1) HB5.out, cell_keep (HV.out.2.1) HB5.out, cell_keep (HV.out.2.2.1) HB5.out, cell_keep (HV.out.2.2.2.1) HB5.out, cell_keep (HV.out.2.2.2.2) HB5.out, cell_keep (HU.out.1) HB5.out, cell_keep (HU.out.2.1) HB5.out, cell_keep (HU.out.2.2.1) HB5.out, cell_keep (HU.out.2.2.2.1) HB5.out, cell_keep (HU.out.2.2.2.2) HB5.out⟩ (fun hHeld => ?_)
     clear hK K
     refine norm_ (a' := ?_) ?_ ?_
     rotate_left
     ·show Act.put _ (some 102) _ = _
      simp only [Act.put, zqk, zql, zqm, i64_w, i32_w]
      rfl
     refine pure_ (i := 13) (N := some 10) (v := ?_) (a' := ?_) (zb 14 16383) rfl rfl (by kernel_rfl) (fun _ _ _ h => h) (Or.inl ⟨by rfl, ?_⟩) ?_ ?_
     (rotate_left; · (intro w'; go_simp; with_reducible rfl))
     (rotate_left; · (simp only [Act.put, zqk, zql, zqm, i64_w, i32_w]; rfl))
     refine done_ (by kernel_rfl) ?_
     have f1_ := cell_keep HS1.out.1 HB5.out; have f2_ := cell_keep HS1.out.2 HB5.out
     have a0 := cell_keep (show wz.drew.cell? _ = _ from HD0.out.1) HB5.out
     have a1 := cell_keep (show wz.drew.cell? _ = _ from HD0.out.2.1) HB5.out
     have b0 := cell_keep (show wz.drew.cell? _ = _ from HD0.out.2.2.1) HB5.out
     have b1 := cell_keep (show wz.drew.cell? _ = _ from HD0.out.2.2.2) HB5.out
     have hbd := below_drew (Below.refl wz.heap.size wz)
     have HBB5 := Lib.hid (below_then (below_then HBB3.out HBB3.out.size hbd) (Nat.le_trans HBB3.out.size hbd.size) HB5.out)
     have HBJ5 := Lib.hid (below_then (below_then HBJ.out HBJ.out.size hbd) (Nat.le_trans HBJ.out.size hbd.size) HB5.out)
     clear HD0 HV HU HS1 HSM hbd g1 k1
     try clear hb5
     cases nn
     ·have HE3 : Hid (F = false) := Lib.hid (by rw [HE.out, HST2.out, HST3.out, HVE.out]; simp)
      go_wp2_with fail
      go_quiet (fail)
      go_wp2_with fail
      go_ret
      exact ⟨by rw [HE3.out]; rfl, zqe HBB5.out _⟩
     by_cases s1 : V.f0 = U.f0
     rotate_left
     ·have S1 : (V.f0 != U.f0) = true := bne_iff_ne.2 s1
      have HE3 : Hid (F = false) := Lib.hid (by rw [HE.out, HST2.out, HST3.out, HVE.out, beq_eq_false_iff_ne.2 s1]; rfl)
      clear s1
      go_wp2_with fail
      go_quiet (fail)
      go_wp2_with fail
      go_ret
      exact ⟨by rw [HE3.out]; rfl, zqe HBB5.out _⟩
     have S1 : (V.f0 != U.f0) = false := by rw [bne_eq_false_iff_eq]; exact s1
     have HS0 := Lib.hid (beq_iff_eq.2 s1)
     clear s1
     cases hp : V.f1 <;> cases hq : U.f1
     all_goals (rw [hp] at a1; rw [hq] at b1)
     ·have HE3 : Hid (G3 = eqL verEq (X.f1.drop (j + 1)) (Y.f1.drop (j + 1))) := Lib.hid (by rw [HST3.out, HVE.out, HS0.out, hp, hq]; rfl)
      clear hp hq
      go_wp2_with fail
      go_quiet (fail)
      go_wp2_with fail
      go_roundg g_
      case measure => have := HJ2.out; omega
      case rel => exact ⟨j + 1, (by first | rw [HWJ.out] | rfl | (congr 1; omega)), Lib.hid ⟨by omega, by have := HJ2.out; omega, HE3.out⟩, Lib.hid (zqe HBJ5.out _)⟩
     ·have HE3 : Hid (F = false) := Lib.hid (by rw [HE.out, HST2.out, HST3.out, HVE.out, HS0.out, hp, hq]; rfl)
      clear hp hq
      go_wp2_with fail
      go_quiet (fail)
      go_wp2_with fail
      go_ret
      exact ⟨by rw [HE3.out]; rfl, zqe HBB5.out _⟩
     ·have HE3 : Hid (F = false) := Lib.hid (by rw [HE.out, HST2.out, HST3.out, HVE.out, HS0.out, hp, hq]; rfl)
      clear hp hq
      go_wp2_with fail
      go_quiet (fail)
      go_wp2_with fail
      go_ret
      exact ⟨by rw [HE3.out]; rfl, zqe HBB5.out _⟩
     ·have HE3 : Hid (G3 = eqL verEq (X.f1.drop (j + 1)) (Y.f1.drop (j + 1))) := Lib.hid (by rw [HST3.out, HVE.out, HS0.out, hp, hq]; rfl)
      clear hp hq
      go_wp2_with fail
      go_quiet (fail)
      go_wp2_with fail
      go_roundg g_
      case measure => have := HJ2.out; omega
      case rel => exact ⟨j + 1, (by first | rw [HWJ.out] | rfl | (congr 1; omega)), Lib.hid ⟨by omega, by have := HJ2.out; omega, HE3.out⟩, Lib.hid (zqe HBJ5.out _)⟩
def copyholdref12_Same.f (l0_0 : List S55) (l0_1 : List S61) (a0_2 : Int) (l1_0 : List S55) (l1_1 : List S61) (a1_2 : Int) : Option Bool := if smallS l0_0 l0_1 = true then some (storeEq l0_0 l0_1 a0_2 l1_0 l1_1 a1_2) else none
theorem copyholdref12_Same.calls (A0_0 : Option Addr) (c0_0 : Nat) (l0_0 : List S55) (A0_1 : Option Addr) (c0_1 : Nat) (l0_1 : List S61) (a0_2 : Int) (A1_0 : Option Addr) (c1_0 : Nat) (l1_0 : List S55) (A1_1 : Option Addr) (c1_1 : Nat) (l1_1 : List S61) (a1_2 : Int) (r : Bool) (w : World)
  (hr0_0 : Kd.C k55 w A0_0 l0_0.length l0_0) (hc0_0 : l0_0.length ≤ c0_0) (hr0_1 : Kd.C k61 w A0_1 l0_1.length l0_1) (hc0_1 : l0_1.length ≤ c0_1) (hr1_0 : Kd.C k55 w A1_0 l1_0.length l1_0) (hc1_0 : l1_0.length ≤ c1_0) (hr1_1 : Kd.C k61 w A1_1 l1_1.length l1_1) (hc1_1 : l1_1.length ≤ c1_1) (h : copyholdref12_Same.f l0_0 l0_1 a0_2 l1_0 l1_1 a1_2 = some r) :
  Calls Try.prog 22 #[.agg #[.slice A0_0 l0_0.length c0_0, .slice A0_1 l0_1.length c0_1, .int .i64 a0_2], .agg #[.slice A1_0 l1_0.length c1_0, .slice A1_1 l1_1.length c1_1, .int .i64 a1_2]] w fun e w' => e = .returned (.bool r) ∧ Below w.heap.size w w' := by
 unfold copyholdref12_Same.f at h
 split at h
 ·rename_i hs
  obtain rfl := Option.some.inj h
  exact rsame_calls A0_0 c0_0 l0_0 A0_1 c0_1 l0_1 a0_2 A1_0 c1_0 l1_0 A1_1 c1_1 l1_1 a1_2 w hr0_0 hr0_1 hr1_0 hr1_1 hs
 ·cases h
end Go.Proofs.Ytdkgkiemndlneaa
end

section
namespace Go.Proofs.Ytdkgkiemndlneaa.Rw
open Go.RowKit Go.Shelf Go.Lib Go.Proofs.Ytdkgkiemndlneaa.Q Go.Proofs.YtdkgkiemndlneaaW.PrintWords Go.Proofs.YtdkgkiemndlneaaW.PrintLast Go.Proofs.YtdkgkiemndlneaaW.PrintMore
section
variable {P : Program}
end
structure HC where
  ino : Int
  a : Option Addr
  n : Nat
  c : Nat
end Go.Proofs.Ytdkgkiemndlneaa.Rw
end

section
namespace Go.Proofs.Ytdkgkiemndlneaa.Rw
open Go.RowKit Go.Shelf Go.Lib Go.Proofs.Ytdkgkiemndlneaa.Q Go.Proofs.YtdkgkiemndlneaaW.PrintWords Go.Proofs.YtdkgkiemndlneaaW.PrintLast Go.Proofs.YtdkgkiemndlneaaW.PrintMore
end Go.Proofs.Ytdkgkiemndlneaa.Rw
end

section
namespace Go.Proofs.Ytdkgkiemndlneaa.Rw
open Go.RowKit Go.Shelf Go.Lib Go.Proofs.Ytdkgkiemndlneaa.Q Go.Proofs.YtdkgkiemndlneaaW.PrintWords Go.Proofs.YtdkgkiemndlneaaW.PrintLast Go.Proofs.YtdkgkiemndlneaaW.PrintMore
structure RowK {α : Type} (d : Kd α) (W : World) (ok : Nat → Prop) (css : List (List Value)) (xs : List α) : Prop where
  len : css.length = xs.length
  each : ∀ (i : Nat) (c : List Value) (x : α), css[i]? = some c → xs[i]? = some x → Kd.FK d W ok x c
section
variable {α : Type} {d : Kd α} {W W1 : World} {ok ok' : Nat → Prop} {css css' : List (List Value)} {xs ys : List α}
theorem RowK.cell (h : RowK d W ok css xs) {i : Nat} {c : List Value} (hc : css[i]? = some c) : ∃ x, xs[i]? = some x ∧ Kd.FK d W ok x c := by
  have hl : i < xs.length := by rw [← h.len]; exact (List.getElem?_eq_some_iff.1 hc).1
  exact ⟨xs[i], List.getElem?_eq_getElem hl, h.each i c _ hc (List.getElem?_eq_getElem hl)⟩
theorem RowK.sz (h : RowK d W ok css xs) : ∀ c ∈ css, c.length = d.sz := fun c hc => by
  obtain ⟨i, hi, rfl⟩ := List.getElem_of_mem hc
  obtain ⟨x, _, hf⟩ := h.cell (List.getElem?_eq_getElem hi)
  exact d.K_len (Kd.FK_now hf)
theorem RowK.one (h : RowK d W ok css xs) : ∀ u ∈ css.flatten, u.oneCell' = true := fun u hu => by
  obtain ⟨c, hc, hu⟩ := List.mem_flatten.1 hu
  obtain ⟨i, hi, rfl⟩ := List.getElem_of_mem hc
  obtain ⟨x, _, hf⟩ := h.cell (List.getElem?_eq_getElem hi)
  exact d.K_one (Kd.FK_now hf) u hu
theorem RowK.step (h : RowK d W ok css xs) (hm : ∀ k, ok k → k < W.heap.size → W1.heap[k]? = W.heap[k]?) : RowK d W1 ok css xs := ⟨h.len, fun i c x hc hx => Kd.FK_step (h.each i c x hc hx) hm⟩
theorem RowK.below (h : RowK d W ok css xs) (hb : Below W.heap.size W W1) : RowK d W1 ok css xs := h.step (fun k _ hlt => hb.block k hlt)
theorem RowK.mono (h : RowK d W ok css xs) (hok : ∀ k, ok k → ok' k) : RowK d W ok' css xs := ⟨h.len, fun i c x hc hx => Kd.FK_mono (h.each i c x hc hx) hok⟩
theorem RowK.bound (h : RowK d W ok css xs) : RowK d W (fun k => ok k ∧ k < W.heap.size) css xs := ⟨h.len, fun i c x hc hx => Kd.FK_bound (h.each i c x hc hx)⟩
theorem RowK.one_ {c : List Value} {x : α} (h : Kd.FK d W ok x c) : RowK d W ok [c] [x] := ⟨rfl, fun i c' x' hc hx => by
  cases i with
  | zero => simp at hc hx; subst hc; subst hx; exact h
  | succ i => simp at hc⟩
theorem RowK.take (h : RowK d W ok css xs) (n : Nat) : RowK d W ok (css.take n) (xs.take n) := by
  refine ⟨by rw [List.length_take, List.length_take, h.len], fun i c x hc hx => ?_⟩
  rw [List.getElem?_take] at hc hx
  split at hc
  · rw [if_pos ‹_›] at hx; exact h.each i c x hc hx
  · cases hc
theorem RowK.drop (h : RowK d W ok css xs) (n : Nat) : RowK d W ok (css.drop n) (xs.drop n) := by
  refine ⟨by rw [List.length_drop, List.length_drop, h.len], fun i c x hc hx => ?_⟩
  rw [List.getElem?_drop] at hc hx
  exact h.each _ c x hc hx
theorem RowK.set (h : RowK d W ok css xs) (n : Nat) {c : List Value} {x : α} (hf : Kd.FK d W ok x c) : RowK d W ok (css.set n c) (xs.set n x) := by
  refine ⟨by rw [List.length_set, List.length_set, h.len], fun i c' x' hc hx => ?_⟩
  rw [List.getElem?_set] at hc hx
  by_cases hi : n = i
  · rw [if_pos hi] at hc hx
    rw [h.len] at hc
    split at hc
    · rw [if_pos ‹_›] at hx
      obtain rfl := Option.some.inj hc
      obtain rfl := Option.some.inj hx
      exact hf
    · cases hc
  · rw [if_neg hi] at hc hx
    exact h.each i c' x' hc hx
theorem choose_list {β : Type} {n : Nat} {R : Nat → β → Prop} (h : ∀ i, i < n → ∃ x, R i x) : ∃ l : List β, l.length = n ∧ ∀ i x, l[i]? = some x → R i x := by
  induction n with
  | zero => exact ⟨[], rfl, fun i x hx => by simp at hx⟩
  | succ n ih =>
    obtain ⟨l, hl, hx⟩ := ih (fun i hi => h i (by omega))
    obtain ⟨x, hx'⟩ := h n (by omega)
    refine ⟨l ++ [x], by simp [hl], fun i y hy => ?_⟩
    by_cases hi : i < l.length
    · rw [List.getElem?_append_left hi] at hy; exact hx i y hy
    · rw [List.getElem?_append_right (by omega)] at hy
      have : i - l.length = 0 := by
        have h2 := (List.getElem?_eq_some_iff.1 hy).1
        simp at h2; omega
      rw [this] at hy
      obtain rfl : x = y := by simpa using hy
      rw [show i = n by omega]; exact hx'
end
end Go.Proofs.Ytdkgkiemndlneaa.Rw
end

section
namespace Go.Proofs.Ytdkgkiemndlneaa
open Go.RowKit Go.Shelf Go.Proofs.Ytdkgkiemndlneaa.Q Go.Proofs.YtdkgkiemndlneaaW.PrintWords Go.Proofs.YtdkgkiemndlneaaW.PrintLast Go.Proofs.YtdkgkiemndlneaaW.PrintMore Math Pl Rw
namespace Pl
end Pl
namespace Rw
end Rw
namespace Rw
end Rw
end Go.Proofs.Ytdkgkiemndlneaa
end

section

end

section
namespace Go.Proofs.Ytdkgkiemndlneaa.Q
open Go.RowKit Go.Proofs.YtdkgkiemndlneaaW.PrintWords Go.Proofs.YtdkgkiemndlneaaW.PrintLast Go.Proofs.YtdkgkiemndlneaaW.PrintMore
attribute [local go_sem] max2_int min2_int max_two min_two max_three min_three max_four min_four   -- for this text's walks alone
open Go.Proofs.Ytdkgkiemndlneaa.X
attribute [local go_sem high] Go.Proofs.Ytdkgkiemndlneaa.px_xor_u8 Go.Proofs.Ytdkgkiemndlneaa.px_xor_u16 Go.Proofs.Ytdkgkiemndlneaa.px_xor_u32 Go.Proofs.Ytdkgkiemndlneaa.px_xor_u64
def store_versed.f (a0_0 : Int) (a0_1 : Bool) (a0_2 : Int) (a0_3 : Int) (a0_4 : Int) (a0_5 : ByteArray) (l0_6 : List (S91)) : Option (Int) := some a0_0
set_option maxHeartbeats 8000000 in
set_option maxRecDepth 100000 in
theorem store_versed.calls (a0_0 : Int) (a0_1 : Bool) (a0_2 : Int) (a0_3 : Int) (a0_4 : Int) (a0_5 : ByteArray) (A0_6 : Option Addr) (c0_6 : Nat) (l0_6 : List (S91)) (r : Int) (w : World) (hr0_6 : Kd.C k91 w A0_6 l0_6.length l0_6) (hc0_6 : l0_6.length ≤ c0_6) (h : store_versed.f a0_0 a0_1 a0_2 a0_3 a0_4 a0_5 l0_6 = some r) :
  Calls Try.prog 32 #[.agg #[.int .i64 a0_0, .bool a0_1, .int .i64 a0_2, .int .i64 a0_3, .int .i64 a0_4, .string a0_5, .slice A0_6 l0_6.length c0_6]] w fun e w' => e = .returned (.int .i64 r) ∧ Below w.heap.size w w' := by
 have hu58 := Try.underlying58
 have HR0_6 := zqj hr0_6
 have HC0_6 := zqj hc0_6
 clear hr0_6 hc0_6
 have HB := zqj (Below.refl w.heap.size w)
 have H : (some a0_0) = some r := h
 clear h
 obtain rfl := Option.some.inj H
 go_enter Try.func32, Try.ntmps32
 go_wp2_with (first | ((with_reducible refine gate_dst (N := 1) rfl ?_); refine box_event ?hg (N := 1) ?hd (cs := #[.int .i64 a0_0, .bool a0_1, .int .i64 a0_2, .int .i64 a0_3, .int .i64 a0_4, .string a0_5, .slice A0_6 l0_6.length c0_6]) (t := 58) ?hr ?_; (case hd => rfl); (case hg => rfl); (case hr => exact zrr); intro gb101 hg w2 hbox hb; have n0_ := zqj (below_step (zrd0 HB.out) hb); have n1_ := zqj (hbox); have n2_ : Aside0 (w.heap.size ≤ gb101) := ⟨by rw [hg]; exact below_size (zrd0 HB.out)⟩; have n3_ := n2_; clear HB; have HB := n0_; have BK101 := n1_; have GW101 := n2_; have GE101 := n3_; clear n0_ n1_ n2_ n3_; clear hb hbox hg; obtain ⟨hcz3_0, hcz3_1, hcz3_2, hcz3_3, hcz3_4, hcz3_5, hcz3_6⟩ := zc7 BK101.out; obtain ⟨hfz3_0, hfz3_1, hfz3_2, hfz3_3, hfz3_4, hfz3_5, hfz3_6⟩ := zf7 BK101.out))
 go_ret
 exact ⟨zru, by repeat (first | (with_reducible first | exact HB.out | apply zqg | apply zqe | apply zqf | refine zqd ?_ GE101.out) | exact HB.out)⟩
def api_Ver.l0 : Nat → Int → Int → List (S58) → Int → Int → Option (Int)
 | 0, _, _, _, _, _ => none
 | k + 1, x1, x7, x10, x11, x12 => if x12 < x11 then (if 0 ≤ x12 then (if x12 < (x10.length : Int) then ((store_versed.f ((rd_T58 x10 x12).f0) ((rd_T58 x10 x12).f1) ((rd_T58 x10 x12).f2.f0) ((rd_T58 x10 x12).f2.f1) ((rd_T58 x10 x12).f2.f2) ((rd_T58 x10 x12).f2.f3) ((rd_T58 x10 x12).f2.f4)).bind fun t104 => (if t104 ≤ x1 then (api_Ver.l0 k x1 x12 x10 x11 (wrap64 (x12 + 1))) else (api_Ver.l0 k x1 x7 x10 x11 (wrap64 (x12 + 1))))) else (none)) else (none)) else (some x7)
def api_Ver.f (k : Nat) (l0 : List (S58)) (a1 : Int) (a2 : Unit) : Option (Int) := api_Ver.l0 k a1 (-1) l0 (l0.length : Int) 0
theorem api_Ver.mono_l : ∀ k, (∀ y0 y1 y2 y3 y4, LeO (api_Ver.l0 k y0 y1 y2 y3 y4) (api_Ver.l0 (k + 1) y0 y1 y2 y3 y4))
 | 0 => fun _ _ _ _ _ r h => by simp [api_Ver.l0] at h
 | k + 1 => by
  have ih0 := api_Ver.mono_l k
  ·intro y0 y1 y2 y3 y4
   unfold api_Ver.l0
   repeat' first
   | (with_reducible exact ih0 _ _ _ _ _)
   | (with_reducible exact LeO.refl _)
   | (with_reducible exact LeO.none _)
   | (with_reducible refine LeO.ite ?_ ?_)
   | (with_reducible refine LeO.bind ?_ (fun _ => ?_))
   | exact ih0 _ _ _ _ _
   | exact LeO.none _
   | refine LeO.ite ?_ ?_
   | refine LeO.bind ?_ (fun _ => ?_)
theorem api_Ver.mono : ∀ a0 a1 a2 k, LeO (api_Ver.f k a0 a1 a2) (api_Ver.f (k + 1) a0 a1 a2) := by
 intro a0 a1 a2 k
 have ih0 := api_Ver.mono_l k
 unfold api_Ver.f
 repeat' first
   | (with_reducible exact ih0 _ _ _ _ _)
   | (with_reducible exact LeO.refl _)
   | (with_reducible exact LeO.none _)
   | (with_reducible refine LeO.ite ?_ ?_)
   | (with_reducible refine LeO.bind ?_ (fun _ => ?_))
   | exact ih0 _ _ _ _ _
   | exact LeO.none _
   | refine LeO.ite ?_ ?_
   | refine LeO.bind ?_ (fun _ => ?_)
set_option maxHeartbeats 8000000 in
set_option maxRecDepth 100000 in
theorem api_Ver.calls (k : Nat) (A0 : Option Addr) (c0 : Nat) (l0 : List (S58)) (a1 : Int) (a2 : Unit) (r : Int) (w : World) (hr0 : Kd.C k58 w A0 l0.length l0) (hc0 : l0.length ≤ c0) (h : api_Ver.f k l0 a1 a2 = some r) :
  Calls Try.prog 31 #[.slice A0 l0.length c0, .int .i64 a1, .func (.func 32) #[] #[]] w fun e w' => e = .returned (.int .i64 r) ∧ Below w.heap.size w w' := by
 have hu58 := Try.underlying58
 have HR0 := zqj hr0
 have HC0 := zqj hc0
 clear hr0 hc0
 have HB := zqj (Below.refl w.heap.size w)
 have H : (api_Ver.l0 k a1 (-1) l0 (l0.length : Int) 0) = some r := h
 clear h
 have H' := zqj H
 clear H
 go_enter Try.func31, Try.ntmps31
 go_wp2
 go_loopg [7, 12] k (fun kq v7 v12 w' => ∃ (x7_1 : Int) (x12_1 : Int), v7 = .int .i64 x7_1 ∧ v12 = .int .i64 x12_1 ∧ Aside0 (api_Ver.l0 kq a1 x7_1 l0 (l0.length : Int) x12_1 = some r) ∧ Aside0 (kq ≤ k) ∧ Aside0 (Below w.heap.size w w'))
 case atStart => exact ⟨((-1)), (0), zrt, zrt, H', ⟨Nat.le_refl _⟩, ⟨by repeat (first | (with_reducible first | exact HB.out | apply zqg | apply zqe | apply zqf) | exact HB.out)⟩⟩
 case round =>
  clear H'
  ((try clear p2); (try clear c3))
  obtain ⟨x7_1, x12_1, rfl, rfl, HA, HK1, HB⟩ := hrel
  cases gk with
  | zero => exact absurd HA.out (by simp [api_Ver.l0])
  | succ k1 =>
   (have H := HA.out; clear HA)
   simp only [api_Ver.l0] at H
   by_cases c4 : x12_1 < (l0.length : Int)
   ·rw [if_pos c4] at H
    have c4b0 : decide (x12_1 < (l0.length : Int)) = true := decide_eq_true c4
    clear c4
    by_cases c5 : 0 ≤ x12_1
    ·rw [if_pos c5] at H
     have c5b0 : decide (0 ≤ x12_1) = true := decide_eq_true c5
     clear c5
     by_cases c6 : x12_1 < (l0.length : Int)
     ·rw [if_pos c6] at H
      have c6b0 : decide (x12_1 < (l0.length : Int)) = true := decide_eq_true c6
      clear c6
      replace H := zqn H
      obtain ⟨t104, A70, H⟩ := H
      replace H : (if t104 ≤ a1 then (api_Ver.l0 k1 a1 x12_1 l0 (l0.length : Int) (wrap64 (x12_1 + 1))) else (api_Ver.l0 k1 a1 x7_1 l0 (l0.length : Int) (wrap64 (x12_1 + 1)))) = some r := H
      have A7 := zqj A70
      clear A70
      by_cases c8 : t104 ≤ a1
      ·rw [if_pos c8] at H
       have c8b0 : decide (t104 ≤ a1) = true := decide_eq_true c8
       clear c8
       have H' := zqj H
       clear H
       have p102 : 0 ≤ (x12_1 : Int) := zqh zrs
       have q102 : x12_1 < (l0.length : Int) := zqh zrs
       obtain ⟨ad102, A102_6, c102_6, e102, hx102_0, hx102_1, hx102_2, hx102_3, hx102_4, hx102_5, hx102_6, hl102_6, hi102_6⟩ := at_T58 HR0.out x12_1 p102 q102
       cases e102
       replace hx102_0 := zx HB.out hx102_0
       replace hx102_1 := zx HB.out hx102_1
       replace hx102_2 := zx HB.out hx102_2
       replace hx102_3 := zx HB.out hx102_3
       replace hx102_4 := zx HB.out hx102_4
       replace hx102_5 := zx HB.out hx102_5
       replace hx102_6 := zx HB.out hx102_6
       have HR102_6 := zqj hi102_6
       have HC102_6 := zqj hl102_6
       clear hi102_6 hl102_6
       replace p102 := eq_true p102
       replace q102 := eq_true q102
       go_wp2_with (first | ((with_reducible refine gate_dst (N := 9) rfl ?_); refine box_event ?hg (N := 9) ?hd (cs := #[.int .i64 0, .bool false, .int .i64 0, .int .i64 0, .int .i64 0, .string (⟨#[]⟩ : ByteArray), .slice none 0 0]) (t := 58) ?hr ?_; (case hd => rfl); (case hg => rfl); (case hr => exact zrr); intro gb103 hg w9 hbox hb; have n0_ := zqj (below_step (zrd0 HB.out) hb); have n1_ := zqj (hbox); have n2_ : Aside0 (w.heap.size ≤ gb103) := ⟨by rw [hg]; exact below_size (zrd0 HB.out)⟩; have n3_ := n2_; clear HB; have HB := n0_; have BK103 := n1_; have GW103 := n2_; have GE103 := n3_; clear n0_ n1_ n2_ n3_; clear hb hbox hg; obtain ⟨hcz10_0, hcz10_1, hcz10_2, hcz10_3, hcz10_4, hcz10_5, hcz10_6⟩ := zc7 BK103.out; obtain ⟨hfz10_0, hfz10_1, hfz10_2, hfz10_3, hfz10_4, hfz10_5, hfz10_6⟩ := zf7 BK103.out) | ((with_reducible refine gate_calleeT rfl ?_); refine goesLT_ (some 19) rfl rfl Try.func32 (by kernel_rfl) rfl #[.agg #[.int .i64 ((rd_T58 l0 x12_1).f0), .bool ((rd_T58 l0 x12_1).f1), .int .i64 ((rd_T58 l0 x12_1).f2.f0), .int .i64 ((rd_T58 l0 x12_1).f2.f1), .int .i64 ((rd_T58 l0 x12_1).f2.f2), .string ((rd_T58 l0 x12_1).f2.f3), .slice A102_6 ((rd_T58 l0 x12_1).f2.f4).length c102_6]] rfl (by rfl) zra ?_; (with_reducible refine (store_versed.calls ((rd_T58 l0 x12_1).f0) ((rd_T58 l0 x12_1).f1) ((rd_T58 l0 x12_1).f2.f0) ((rd_T58 l0 x12_1).f2.f1) ((rd_T58 l0 x12_1).f2.f2) ((rd_T58 l0 x12_1).f2.f3) _ _ ((rd_T58 l0 x12_1).f2.f4) t104 _ ?side1 ?side2 A7.out).mono ?_); (case side1 => exact Kd.C_below HR102_6.out (zrd1 HB.out GE103.out)); (case side2 => exact HC102_6.out); rintro e w11 ⟨rfl, hb⟩; refine ⟨_, rfl, ?_⟩; replace BK103 := zqj (blk_below (g := gb103) (o := .cells #[.int .i64 ((rd_T58 l0 x12_1).f0), .bool ((rd_T58 l0 x12_1).f1), .int .i64 ((rd_T58 l0 x12_1).f2.f0), .int .i64 ((rd_T58 l0 x12_1).f2.f1), .int .i64 ((rd_T58 l0 x12_1).f2.f2), .string ((rd_T58 l0 x12_1).f2.f3), .slice A102_6 ((rd_T58 l0 x12_1).f2.f4).length c102_6] 58 (0, 0)) (by (with_reducible repeat (first | refine zqa ?_ _ | refine zqb ?_ | refine zqc ?_ _)); refine blk_put (cs := #[.int .i64 ((rd_T58 l0 x12_1).f0), .bool ((rd_T58 l0 x12_1).f1), .int .i64 ((rd_T58 l0 x12_1).f2.f0), .int .i64 ((rd_T58 l0 x12_1).f2.f1), .int .i64 ((rd_T58 l0 x12_1).f2.f2), .string ((rd_T58 l0 x12_1).f2.f3), .slice none 0 0]) ?_ 6 _ rfl; (with_reducible repeat (first | refine zqa ?_ _ | refine zqb ?_ | refine zqc ?_ _)); refine blk_put (cs := #[.int .i64 ((rd_T58 l0 x12_1).f0), .bool ((rd_T58 l0 x12_1).f1), .int .i64 ((rd_T58 l0 x12_1).f2.f0), .int .i64 ((rd_T58 l0 x12_1).f2.f1), .int .i64 ((rd_T58 l0 x12_1).f2.f2), .string (⟨#[]⟩ : ByteArray), .slice none 0 0]) ?_ 5 _ rfl; (with_reducible repeat (first | refine zqa ?_ _ | refine zqb ?_ | refine zqc ?_ _)); refine blk_put (cs := #[.int .i64 ((rd_T58 l0 x12_1).f0), .bool ((rd_T58 l0 x12_1).f1), .int .i64 ((rd_T58 l0 x12_1).f2.f0), .int .i64 ((rd_T58 l0 x12_1).f2.f1), .int .i64 0, .string (⟨#[]⟩ : ByteArray), .slice none 0 0]) ?_ 4 _ rfl; (with_reducible repeat (first | refine zqa ?_ _ | refine zqb ?_ | refine zqc ?_ _)); refine blk_put (cs := #[.int .i64 ((rd_T58 l0 x12_1).f0), .bool ((rd_T58 l0 x12_1).f1), .int .i64 ((rd_T58 l0 x12_1).f2.f0), .int .i64 0, .int .i64 0, .string (⟨#[]⟩ : ByteArray), .slice none 0 0]) ?_ 3 _ rfl; (with_reducible repeat (first | refine zqa ?_ _ | refine zqb ?_ | refine zqc ?_ _)); refine blk_put (cs := #[.int .i64 ((rd_T58 l0 x12_1).f0), .bool ((rd_T58 l0 x12_1).f1), .int .i64 0, .int .i64 0, .int .i64 0, .string (⟨#[]⟩ : ByteArray), .slice none 0 0]) ?_ 2 _ rfl; (with_reducible repeat (first | refine zqa ?_ _ | refine zqb ?_ | refine zqc ?_ _)); refine blk_put (cs := #[.int .i64 ((rd_T58 l0 x12_1).f0), .bool false, .int .i64 0, .int .i64 0, .int .i64 0, .string (⟨#[]⟩ : ByteArray), .slice none 0 0]) ?_ 1 _ rfl; (with_reducible repeat (first | refine zqa ?_ _ | refine zqb ?_ | refine zqc ?_ _)); refine blk_put (cs := #[.int .i64 0, .bool false, .int .i64 0, .int .i64 0, .int .i64 0, .string (⟨#[]⟩ : ByteArray), .slice none 0 0]) ?_ 0 _ rfl; (with_reducible repeat (first | refine zqa ?_ _ | refine zqb ?_ | refine zqc ?_ _)); exact BK103.out) hb); replace HB := zqj (below_step (zrd1 HB.out GE103.out) hb); (try clear hb); (try clear hb2); (try clear hk); (try clear hi)))
       go_roundg k1
       case measure => have := HK1.out; omega
       case rel => exact ⟨(x12_1), (wrap64 (x12_1 + 1)), zrt, zrt, H', ⟨by have := HK1.out; omega⟩, ⟨by repeat (first | (with_reducible first | exact HB.out | apply zqg | apply zqe | apply zqf | refine zqd ?_ GE103.out) | exact HB.out)⟩⟩
      ·rw [if_neg c8] at H
       have c8b0 : decide (t104 ≤ a1) = false := decide_eq_false c8
       clear c8
       have H' := zqj H
       clear H
       have p102 : 0 ≤ (x12_1 : Int) := zqh zrs
       have q102 : x12_1 < (l0.length : Int) := zqh zrs
       obtain ⟨ad102, A102_6, c102_6, e102, hx102_0, hx102_1, hx102_2, hx102_3, hx102_4, hx102_5, hx102_6, hl102_6, hi102_6⟩ := at_T58 HR0.out x12_1 p102 q102
       cases e102
       replace hx102_0 := zx HB.out hx102_0
       replace hx102_1 := zx HB.out hx102_1
       replace hx102_2 := zx HB.out hx102_2
       replace hx102_3 := zx HB.out hx102_3
       replace hx102_4 := zx HB.out hx102_4
       replace hx102_5 := zx HB.out hx102_5
       replace hx102_6 := zx HB.out hx102_6
       have HR102_6 := zqj hi102_6
       have HC102_6 := zqj hl102_6
       clear hi102_6 hl102_6
       replace p102 := eq_true p102
       replace q102 := eq_true q102
       go_wp2_with (first | ((with_reducible refine gate_dst (N := 9) rfl ?_); refine box_event ?hg (N := 9) ?hd (cs := #[.int .i64 0, .bool false, .int .i64 0, .int .i64 0, .int .i64 0, .string (⟨#[]⟩ : ByteArray), .slice none 0 0]) (t := 58) ?hr ?_; (case hd => rfl); (case hg => rfl); (case hr => exact zrr); intro gb103 hg w12 hbox hb; have n0_ := zqj (below_step (zrd0 HB.out) hb); have n1_ := zqj (hbox); have n2_ : Aside0 (w.heap.size ≤ gb103) := ⟨by rw [hg]; exact below_size (zrd0 HB.out)⟩; have n3_ := n2_; clear HB; have HB := n0_; have BK103 := n1_; have GW103 := n2_; have GE103 := n3_; clear n0_ n1_ n2_ n3_; clear hb hbox hg; obtain ⟨hcz13_0, hcz13_1, hcz13_2, hcz13_3, hcz13_4, hcz13_5, hcz13_6⟩ := zc7 BK103.out; obtain ⟨hfz13_0, hfz13_1, hfz13_2, hfz13_3, hfz13_4, hfz13_5, hfz13_6⟩ := zf7 BK103.out) | ((with_reducible refine gate_calleeT rfl ?_); refine goesLT_ (some 19) rfl rfl Try.func32 (by kernel_rfl) rfl #[.agg #[.int .i64 ((rd_T58 l0 x12_1).f0), .bool ((rd_T58 l0 x12_1).f1), .int .i64 ((rd_T58 l0 x12_1).f2.f0), .int .i64 ((rd_T58 l0 x12_1).f2.f1), .int .i64 ((rd_T58 l0 x12_1).f2.f2), .string ((rd_T58 l0 x12_1).f2.f3), .slice A102_6 ((rd_T58 l0 x12_1).f2.f4).length c102_6]] rfl (by rfl) zra ?_; (with_reducible refine (store_versed.calls ((rd_T58 l0 x12_1).f0) ((rd_T58 l0 x12_1).f1) ((rd_T58 l0 x12_1).f2.f0) ((rd_T58 l0 x12_1).f2.f1) ((rd_T58 l0 x12_1).f2.f2) ((rd_T58 l0 x12_1).f2.f3) _ _ ((rd_T58 l0 x12_1).f2.f4) t104 _ ?side1 ?side2 A7.out).mono ?_); (case side1 => exact Kd.C_below HR102_6.out (zrd1 HB.out GE103.out)); (case side2 => exact HC102_6.out); rintro e w14 ⟨rfl, hb⟩; refine ⟨_, rfl, ?_⟩; replace BK103 := zqj (blk_below (g := gb103) (o := .cells #[.int .i64 ((rd_T58 l0 x12_1).f0), .bool ((rd_T58 l0 x12_1).f1), .int .i64 ((rd_T58 l0 x12_1).f2.f0), .int .i64 ((rd_T58 l0 x12_1).f2.f1), .int .i64 ((rd_T58 l0 x12_1).f2.f2), .string ((rd_T58 l0 x12_1).f2.f3), .slice A102_6 ((rd_T58 l0 x12_1).f2.f4).length c102_6] 58 (0, 0)) (by (with_reducible repeat (first | refine zqa ?_ _ | refine zqb ?_ | refine zqc ?_ _)); refine blk_put (cs := #[.int .i64 ((rd_T58 l0 x12_1).f0), .bool ((rd_T58 l0 x12_1).f1), .int .i64 ((rd_T58 l0 x12_1).f2.f0), .int .i64 ((rd_T58 l0 x12_1).f2.f1), .int .i64 ((rd_T58 l0 x12_1).f2.f2), .string ((rd_T58 l0 x12_1).f2.f3), .slice none 0 0]) ?_ 6 _ rfl; (with_reducible repeat (first | refine zqa ?_ _ | refine zqb ?_ | refine zqc ?_ _)); refine blk_put (cs := #[.int .i64 ((rd_T58 l0 x12_1).f0), .bool ((rd_T58 l0 x12_1).f1), .int .i64 ((rd_T58 l0 x12_1).f2.f0), .int .i64 ((rd_T58 l0 x12_1).f2.f1), .int .i64 ((rd_T58 l0 x12_1).f2.f2), .string (⟨#[]⟩ : ByteArray), .slice none 0 0]) ?_ 5 _ rfl; (with_reducible repeat (first | refine zqa ?_ _ | refine zqb ?_ | refine zqc ?_ _)); refine blk_put (cs := #[.int .i64 ((rd_T58 l0 x12_1).f0), .bool ((rd_T58 l0 x12_1).f1), .int .i64 ((rd_T58 l0 x12_1).f2.f0), .int .i64 ((rd_T58 l0 x12_1).f2.f1), .int .i64 0, .string (⟨#[]⟩ : ByteArray), .slice none 0 0]) ?_ 4 _ rfl; (with_reducible repeat (first | refine zqa ?_ _ | refine zqb ?_ | refine zqc ?_ _)); refine blk_put (cs := #[.int .i64 ((rd_T58 l0 x12_1).f0), .bool ((rd_T58 l0 x12_1).f1), .int .i64 ((rd_T58 l0 x12_1).f2.f0), .int .i64 0, .int .i64 0, .string (⟨#[]⟩ : ByteArray), .slice none 0 0]) ?_ 3 _ rfl; (with_reducible repeat (first | refine zqa ?_ _ | refine zqb ?_ | refine zqc ?_ _)); refine blk_put (cs := #[.int .i64 ((rd_T58 l0 x12_1).f0), .bool ((rd_T58 l0 x12_1).f1), .int .i64 0, .int .i64 0, .int .i64 0, .string (⟨#[]⟩ : ByteArray), .slice none 0 0]) ?_ 2 _ rfl; (with_reducible repeat (first | refine zqa ?_ _ | refine zqb ?_ | refine zqc ?_ _)); refine blk_put (cs := #[.int .i64 ((rd_T58 l0 x12_1).f0), .bool false, .int .i64 0, .int .i64 0, .int .i64 0, .string (⟨#[]⟩ : ByteArray), .slice none 0 0]) ?_ 1 _ rfl; (with_reducible repeat (first | refine zqa ?_ _ | refine zqb ?_ | refine zqc ?_ _)); refine blk_put (cs := #[.int .i64 0, .bool false, .int .i64 0, .int .i64 0, .int .i64 0, .string (⟨#[]⟩ : ByteArray), .slice none 0 0]) ?_ 0 _ rfl; (with_reducible repeat (first | refine zqa ?_ _ | refine zqb ?_ | refine zqc ?_ _)); exact BK103.out) hb); replace HB := zqj (below_step (zrd1 HB.out GE103.out) hb); (try clear hb); (try clear hb2); (try clear hk); (try clear hi)))
       go_roundg k1
       case measure => have := HK1.out; omega
       case rel => exact ⟨(x7_1), (wrap64 (x12_1 + 1)), zrt, zrt, H', ⟨by have := HK1.out; omega⟩, ⟨by repeat (first | (with_reducible first | exact HB.out | apply zqg | apply zqe | apply zqf | refine zqd ?_ GE103.out) | exact HB.out)⟩⟩
     ·rw [if_neg c6] at H
      exact absurd H (by simp)
    ·rw [if_neg c5] at H
     exact absurd H (by simp)
   ·rw [if_neg c4] at H
    have c4b0 : decide (x12_1 < (l0.length : Int)) = false := decide_eq_false c4
    clear c4
    obtain rfl := Option.some.inj H
    go_wp2
    go_ret
    exact ⟨zru, by repeat (first | (with_reducible first | exact HB.out | apply zqg | apply zqe | apply zqf) | exact HB.out)⟩
def store_counted.f (a0_0 : Int) (a0_1 : Int) : Option (Int) := some a0_0
set_option maxHeartbeats 8000000 in
set_option maxRecDepth 100000 in
theorem store_counted.calls (a0_0 : Int) (a0_1 : Int) (r : Int) (w : World) (h : store_counted.f a0_0 a0_1 = some r) :
  Calls Try.prog 34 #[.agg #[.int .i64 a0_0, .int .i64 a0_1]] w fun e w' => e = .returned (.int .i64 r) ∧ Below w.heap.size w w' := by
 have hu61 := Try.underlying61
 have HB := zqj (Below.refl w.heap.size w)
 have H : (some a0_0) = some r := h
 clear h
 obtain rfl := Option.some.inj H
 go_enter Try.func34, Try.ntmps34
 go_wp2_with (first | ((with_reducible refine gate_dst (N := 1) rfl ?_); refine box_event ?hg (N := 1) ?hd (cs := #[.int .i64 a0_0, .int .i64 a0_1]) (t := 61) ?hr ?_; (case hd => rfl); (case hg => rfl); (case hr => exact zrr); intro gb105 hg w2 hbox hb; have n0_ := zqj (below_step (zrd0 HB.out) hb); have n1_ := zqj (hbox); have n2_ : Aside0 (w.heap.size ≤ gb105) := ⟨by rw [hg]; exact below_size (zrd0 HB.out)⟩; have n3_ := n2_; clear HB; have HB := n0_; have BK105 := n1_; have GW105 := n2_; have GE105 := n3_; clear n0_ n1_ n2_ n3_; clear hb hbox hg; obtain ⟨hcz3_0, hcz3_1⟩ := zc2 BK105.out; obtain ⟨hfz3_0, hfz3_1⟩ := zf2 BK105.out))
 go_ret
 exact ⟨zru, by repeat (first | (with_reducible first | exact HB.out | apply zqg | apply zqe | apply zqf | refine zqd ?_ GE105.out) | exact HB.out)⟩
def api_Count.l0 : Nat → Int → Int → List (S61) → Int → Int → Option (Int)
 | 0, _, _, _, _, _ => none
 | k + 1, x1, x7, x10, x11, x12 => if x12 < x11 then (if 0 ≤ x12 then (if x12 < (x10.length : Int) then ((store_counted.f ((rd_T61 x10 x12).f0) ((rd_T61 x10 x12).f1)).bind fun t108 => (if t108 ≤ x1 then (api_Count.l0 k x1 x12 x10 x11 (wrap64 (x12 + 1))) else (api_Count.l0 k x1 x7 x10 x11 (wrap64 (x12 + 1))))) else (none)) else (none)) else (some x7)
def api_Count.f (k : Nat) (l0 : List (S61)) (a1 : Int) (a2 : Unit) : Option (Int) := api_Count.l0 k a1 (-1) l0 (l0.length : Int) 0
theorem api_Count.mono_l : ∀ k, (∀ y0 y1 y2 y3 y4, LeO (api_Count.l0 k y0 y1 y2 y3 y4) (api_Count.l0 (k + 1) y0 y1 y2 y3 y4))
 | 0 => fun _ _ _ _ _ r h => by simp [api_Count.l0] at h
 | k + 1 => by
  have ih0 := api_Count.mono_l k
  ·intro y0 y1 y2 y3 y4
   unfold api_Count.l0
   repeat' first
   | (with_reducible exact ih0 _ _ _ _ _)
   | (with_reducible exact LeO.refl _)
   | (with_reducible exact LeO.none _)
   | (with_reducible refine LeO.ite ?_ ?_)
   | (with_reducible refine LeO.bind ?_ (fun _ => ?_))
   | exact ih0 _ _ _ _ _
   | exact LeO.none _
   | refine LeO.ite ?_ ?_
   | refine LeO.bind ?_ (fun _ => ?_)
theorem api_Count.mono : ∀ a0 a1 a2 k, LeO (api_Count.f k a0 a1 a2) (api_Count.f (k + 1) a0 a1 a2) := by
 intro a0 a1 a2 k
 have ih0 := api_Count.mono_l k
 unfold api_Count.f
 repeat' first
   | (with_reducible exact ih0 _ _ _ _ _)
   | (with_reducible exact LeO.refl _)
   | (with_reducible exact LeO.none _)
   | (with_reducible refine LeO.ite ?_ ?_)
   | (with_reducible refine LeO.bind ?_ (fun _ => ?_))
   | exact ih0 _ _ _ _ _
   | exact LeO.none _
   | refine LeO.ite ?_ ?_
   | refine LeO.bind ?_ (fun _ => ?_)
set_option maxHeartbeats 8000000 in
set_option maxRecDepth 100000 in
theorem api_Count.calls (k : Nat) (A0 : Option Addr) (c0 : Nat) (l0 : List (S61)) (a1 : Int) (a2 : Unit) (r : Int) (w : World) (hr0 : Kd.C k61 w A0 l0.length l0) (hc0 : l0.length ≤ c0) (h : api_Count.f k l0 a1 a2 = some r) :
  Calls Try.prog 33 #[.slice A0 l0.length c0, .int .i64 a1, .func (.func 34) #[] #[]] w fun e w' => e = .returned (.int .i64 r) ∧ Below w.heap.size w w' := by
 have hu61 := Try.underlying61
 have HR0 := zqj hr0
 have HC0 := zqj hc0
 clear hr0 hc0
 have HB := zqj (Below.refl w.heap.size w)
 have H : (api_Count.l0 k a1 (-1) l0 (l0.length : Int) 0) = some r := h
 clear h
 have H' := zqj H
 clear H
 go_enter Try.func33, Try.ntmps33
 go_wp2
 go_loopg [7, 12] k (fun kq v7 v12 w' => ∃ (x7_1 : Int) (x12_1 : Int), v7 = .int .i64 x7_1 ∧ v12 = .int .i64 x12_1 ∧ Aside0 (api_Count.l0 kq a1 x7_1 l0 (l0.length : Int) x12_1 = some r) ∧ Aside0 (kq ≤ k) ∧ Aside0 (Below w.heap.size w w'))
 case atStart => exact ⟨((-1)), (0), zrt, zrt, H', ⟨Nat.le_refl _⟩, ⟨by repeat (first | (with_reducible first | exact HB.out | apply zqg | apply zqe | apply zqf) | exact HB.out)⟩⟩
 case round =>
  clear H'
  ((try clear p2); (try clear c3))
  obtain ⟨x7_1, x12_1, rfl, rfl, HA, HK1, HB⟩ := hrel
  cases gk with
  | zero => exact absurd HA.out (by simp [api_Count.l0])
  | succ k1 =>
   (have H := HA.out; clear HA)
   simp only [api_Count.l0] at H
   by_cases c4 : x12_1 < (l0.length : Int)
   ·rw [if_pos c4] at H
    have c4b0 : decide (x12_1 < (l0.length : Int)) = true := decide_eq_true c4
    clear c4
    by_cases c5 : 0 ≤ x12_1
    ·rw [if_pos c5] at H
     have c5b0 : decide (0 ≤ x12_1) = true := decide_eq_true c5
     clear c5
     by_cases c6 : x12_1 < (l0.length : Int)
     ·rw [if_pos c6] at H
      have c6b0 : decide (x12_1 < (l0.length : Int)) = true := decide_eq_true c6
      clear c6
      replace H := zqn H
      obtain ⟨t108, A70, H⟩ := H
      replace H : (if t108 ≤ a1 then (api_Count.l0 k1 a1 x12_1 l0 (l0.length : Int) (wrap64 (x12_1 + 1))) else (api_Count.l0 k1 a1 x7_1 l0 (l0.length : Int) (wrap64 (x12_1 + 1)))) = some r := H
      have A7 := zqj A70
      clear A70
      by_cases c8 : t108 ≤ a1
      ·rw [if_pos c8] at H
       have c8b0 : decide (t108 ≤ a1) = true := decide_eq_true c8
       clear c8
       have H' := zqj H
       clear H
       have p106 : 0 ≤ (x12_1 : Int) := zqh zrs
       have q106 : x12_1 < (l0.length : Int) := zqh zrs
       obtain ⟨ad106, e106, hx106_0, hx106_1⟩ := at_T61 HR0.out x12_1 p106 q106
       cases e106
       replace hx106_0 := zx HB.out hx106_0
       replace hx106_1 := zx HB.out hx106_1
       replace p106 := eq_true p106
       replace q106 := eq_true q106
       go_wp2_with (first | ((with_reducible refine gate_dst (N := 9) rfl ?_); refine box_event ?hg (N := 9) ?hd (cs := #[.int .i64 0, .int .i64 0]) (t := 61) ?hr ?_; (case hd => rfl); (case hg => rfl); (case hr => exact zrr); intro gb107 hg w9 hbox hb; have n0_ := zqj (below_step (zrd0 HB.out) hb); have n1_ := zqj (hbox); have n2_ : Aside0 (w.heap.size ≤ gb107) := ⟨by rw [hg]; exact below_size (zrd0 HB.out)⟩; have n3_ := n2_; clear HB; have HB := n0_; have BK107 := n1_; have GW107 := n2_; have GE107 := n3_; clear n0_ n1_ n2_ n3_; clear hb hbox hg; obtain ⟨hcz10_0, hcz10_1⟩ := zc2 BK107.out; obtain ⟨hfz10_0, hfz10_1⟩ := zf2 BK107.out) | ((with_reducible refine gate_calleeT rfl ?_); refine goesLT_ (some 19) rfl rfl Try.func34 (by kernel_rfl) rfl #[.agg #[.int .i64 ((rd_T61 l0 x12_1).f0), .int .i64 ((rd_T61 l0 x12_1).f1)]] rfl (by rfl) zra ?_; (with_reducible refine (store_counted.calls ((rd_T61 l0 x12_1).f0) ((rd_T61 l0 x12_1).f1) t108 _ A7.out).mono ?_); rintro e w11 ⟨rfl, hb⟩; refine ⟨_, rfl, ?_⟩; replace BK107 := zqj (blk_below (g := gb107) (o := .cells #[.int .i64 ((rd_T61 l0 x12_1).f0), .int .i64 ((rd_T61 l0 x12_1).f1)] 61 (0, 0)) (by (with_reducible repeat (first | refine zqa ?_ _ | refine zqb ?_ | refine zqc ?_ _)); refine blk_put (cs := #[.int .i64 ((rd_T61 l0 x12_1).f0), .int .i64 0]) ?_ 1 _ rfl; (with_reducible repeat (first | refine zqa ?_ _ | refine zqb ?_ | refine zqc ?_ _)); refine blk_put (cs := #[.int .i64 0, .int .i64 0]) ?_ 0 _ rfl; (with_reducible repeat (first | refine zqa ?_ _ | refine zqb ?_ | refine zqc ?_ _)); exact BK107.out) hb); replace HB := zqj (below_step (zrd1 HB.out GE107.out) hb); (try clear hb); (try clear hb2); (try clear hk); (try clear hi)))
       go_roundg k1
       case measure => have := HK1.out; omega
       case rel => exact ⟨(x12_1), (wrap64 (x12_1 + 1)), zrt, zrt, H', ⟨by have := HK1.out; omega⟩, ⟨by repeat (first | (with_reducible first | exact HB.out | apply zqg | apply zqe | apply zqf | refine zqd ?_ GE107.out) | exact HB.out)⟩⟩
      ·rw [if_neg c8] at H
       have c8b0 : decide (t108 ≤ a1) = false := decide_eq_false c8
       clear c8
       have H' := zqj H
       clear H
       have p106 : 0 ≤ (x12_1 : Int) := zqh zrs
       have q106 : x12_1 < (l0.length : Int) := zqh zrs
       obtain ⟨ad106, e106, hx106_0, hx106_1⟩ := at_T61 HR0.out x12_1 p106 q106
       cases e106
       replace hx106_0 := zx HB.out hx106_0
       replace hx106_1 := zx HB.out hx106_1
       replace p106 := eq_true p106
       replace q106 := eq_true q106
       go_wp2_with (first | ((with_reducible refine gate_dst (N := 9) rfl ?_); refine box_event ?hg (N := 9) ?hd (cs := #[.int .i64 0, .int .i64 0]) (t := 61) ?hr ?_; (case hd => rfl); (case hg => rfl); (case hr => exact zrr); intro gb107 hg w12 hbox hb; have n0_ := zqj (below_step (zrd0 HB.out) hb); have n1_ := zqj (hbox); have n2_ : Aside0 (w.heap.size ≤ gb107) := ⟨by rw [hg]; exact below_size (zrd0 HB.out)⟩; have n3_ := n2_; clear HB; have HB := n0_; have BK107 := n1_; have GW107 := n2_; have GE107 := n3_; clear n0_ n1_ n2_ n3_; clear hb hbox hg; obtain ⟨hcz13_0, hcz13_1⟩ := zc2 BK107.out; obtain ⟨hfz13_0, hfz13_1⟩ := zf2 BK107.out) | ((with_reducible refine gate_calleeT rfl ?_); refine goesLT_ (some 19) rfl rfl Try.func34 (by kernel_rfl) rfl #[.agg #[.int .i64 ((rd_T61 l0 x12_1).f0), .int .i64 ((rd_T61 l0 x12_1).f1)]] rfl (by rfl) zra ?_; (with_reducible refine (store_counted.calls ((rd_T61 l0 x12_1).f0) ((rd_T61 l0 x12_1).f1) t108 _ A7.out).mono ?_); rintro e w14 ⟨rfl, hb⟩; refine ⟨_, rfl, ?_⟩; replace BK107 := zqj (blk_below (g := gb107) (o := .cells #[.int .i64 ((rd_T61 l0 x12_1).f0), .int .i64 ((rd_T61 l0 x12_1).f1)] 61 (0, 0)) (by (with_reducible repeat (first | refine zqa ?_ _ | refine zqb ?_ | refine zqc ?_ _)); refine blk_put (cs := #[.int .i64 ((rd_T61 l0 x12_1).f0), .int .i64 0]) ?_ 1 _ rfl; (with_reducible repeat (first | refine zqa ?_ _ | refine zqb ?_ | refine zqc ?_ _)); refine blk_put (cs := #[.int .i64 0, .int .i64 0]) ?_ 0 _ rfl; (with_reducible repeat (first | refine zqa ?_ _ | refine zqb ?_ | refine zqc ?_ _)); exact BK107.out) hb); replace HB := zqj (below_step (zrd1 HB.out GE107.out) hb); (try clear hb); (try clear hb2); (try clear hk); (try clear hi)))
       go_roundg k1
       case measure => have := HK1.out; omega
       case rel => exact ⟨(x7_1), (wrap64 (x12_1 + 1)), zrt, zrt, H', ⟨by have := HK1.out; omega⟩, ⟨by repeat (first | (with_reducible first | exact HB.out | apply zqg | apply zqe | apply zqf | refine zqd ?_ GE107.out) | exact HB.out)⟩⟩
     ·rw [if_neg c6] at H
      exact absurd H (by simp)
    ·rw [if_neg c5] at H
     exact absurd H (by simp)
   ·rw [if_neg c4] at H
    have c4b0 : decide (x12_1 < (l0.length : Int)) = false := decide_eq_false c4
    clear c4
    obtain rfl := Option.some.inj H
    go_wp2
    go_ret
    exact ⟨zru, by repeat (first | (with_reducible first | exact HB.out | apply zqg | apply zqe | apply zqf) | exact HB.out)⟩
def store_View.l0 : Nat → Int → List (S55) → Int → Int → List (S55) → List (S61) → Int → List (S38) → Int → Option ((List (S38)) × Int)
 | 0, _, _, _, _, _, _, _, _, _ => none
 | k + 1, x1, x12, x13, x14, x110000, x110001, x110002, x112000, x112001 => if x14 < x13 then (if 0 ≤ x14 then (if x14 < (x12.length : Int) then ((api_Ver.f k ((rd_T55 x12 x14).f1) x1 ()).bind fun t114 => (if t114 ≥ 0 then (if 0 ≤ t114 then (if t114 < (((rd_T55 x12 x14).f1).length : Int) then (if ((rd_T58 ((rd_T55 x12 x14).f1) t114).f1 = true) then (store_View.l0 k x1 x12 x13 (wrap64 (x14 + 1)) x110000 x110001 x110002 x112000 x112001) else (if x112000.length < 2199023255552 then (store_View.l0 k x1 x12 x13 (wrap64 (x14 + 1)) x110000 x110001 x110002 (x112000 ++ [(⟨(rd_T58 ((rd_T55 x12 x14).f1) t114).f2.f0, (rd_T58 ((rd_T55 x12 x14).f1) t114).f2.f1, (rd_T58 ((rd_T55 x12 x14).f1) t114).f2.f2, (rd_T58 ((rd_T55 x12 x14).f1) t114).f2.f3, (rd_T58 ((rd_T55 x12 x14).f1) t114).f2.f4⟩ : S38)]) x112001) else (none))) else (none)) else (none)) else (store_View.l0 k x1 x12 x13 (wrap64 (x14 + 1)) x110000 x110001 x110002 x112000 x112001))) else (none)) else (none)) else ((api_Count.f k x110001 x1 ()).bind fun t120 => (if t120 ≥ 0 then (if 0 ≤ t120 then (if t120 < (x110001.length : Int) then (some (x112000, (rd_T61 x110001 t120).f1)) else (none)) else (none)) else (some (x112000, x112001))))
def store_View.f (k : Nat) (l0_0 : List (S55)) (l0_1 : List (S61)) (a0_2 : Int) (a1 : Int) : Option ((List (S38)) × Int) := store_View.l0 k a1 l0_0 (l0_0.length : Int) 0 l0_0 l0_1 a0_2 ([] : List (S38)) 1
theorem store_View.mono_l : ∀ k, (∀ y0 y1 y2 y3 y4 y5 y6 y7 y8, LeO (store_View.l0 k y0 y1 y2 y3 y4 y5 y6 y7 y8) (store_View.l0 (k + 1) y0 y1 y2 y3 y4 y5 y6 y7 y8))
 | 0 => fun _ _ _ _ _ _ _ _ _ r h => by simp [store_View.l0] at h
 | k + 1 => by
  have ih0 := store_View.mono_l k
  ·intro y0 y1 y2 y3 y4 y5 y6 y7 y8
   unfold store_View.l0
   repeat' first
   | (with_reducible exact ih0 _ _ _ _ _ _ _ _ _)
   | (with_reducible exact api_Count.mono _ _ _ _)
   | (with_reducible exact api_Ver.mono _ _ _ _)
   | (with_reducible exact LeO.refl _)
   | (with_reducible exact LeO.none _)
   | (with_reducible refine LeO.ite ?_ ?_)
   | (with_reducible refine LeO.bind ?_ (fun _ => ?_))
   | exact ih0 _ _ _ _ _ _ _ _ _
   | exact api_Count.mono _ _ _ _
   | exact api_Ver.mono _ _ _ _
   | exact LeO.none _
   | refine LeO.ite ?_ ?_
   | refine LeO.bind ?_ (fun _ => ?_)
theorem store_View.mono : ∀ a0 a1 a2 a3 k, LeO (store_View.f k a0 a1 a2 a3) (store_View.f (k + 1) a0 a1 a2 a3) := by
 intro a0 a1 a2 a3 k
 have ih0 := store_View.mono_l k
 unfold store_View.f
 repeat' first
   | (with_reducible exact ih0 _ _ _ _ _ _ _ _ _)
   | (with_reducible exact api_Count.mono _ _ _ _)
   | (with_reducible exact api_Ver.mono _ _ _ _)
   | (with_reducible exact LeO.refl _)
   | (with_reducible exact LeO.none _)
   | (with_reducible refine LeO.ite ?_ ?_)
   | (with_reducible refine LeO.bind ?_ (fun _ => ?_))
   | exact ih0 _ _ _ _ _ _ _ _ _
   | exact api_Count.mono _ _ _ _
   | exact api_Ver.mono _ _ _ _
   | exact LeO.none _
   | refine LeO.ite ?_ ?_
   | refine LeO.bind ?_ (fun _ => ?_)
def store_View.T7 : Bool × List (List Nat × List Nat) := (true, [([], []), ([0], [0]), ([], []), ([2], [2]), ([], []), ([3, 4], [3, 4]), ([5], [5]), ([6], [6]), ([7], [7]), ([1, 8], [1, 8]), ([0, 1, 2, 3, 4, 5, 6, 7, 8, 9], []), ([10, 9, 9, 0, 1, 2, 3, 4, 5, 6, 7, 8, 9], [9, 10])])
def store_View.B7 : List Nat := [0, 1, 0, 4, 0, 28, 60, 124, 252, 511, 1023, 2047]
theorem store_View.tab7 : rtab .any (opsOf Try.f13 7) = store_View.T7 := by kernel_rfl
theorem store_View.bits7 : waitsOk store_View.T7.2 store_View.B7 = true := by kernel_rfl
set_option maxHeartbeats 8000000 in
set_option maxRecDepth 100000 in
theorem store_View.calls (k : Nat) (P0_0_ : Nat → Prop) (A0_0 : Option Addr) (c0_0 : Nat) (l0_0 : List (S55)) (A0_1 : Option Addr) (c0_1 : Nat) (l0_1 : List (S61)) (a0_2 : Int) (a1 : Int) (r1 : List (S38)) (r2 : Int) (w : World) (hs0_0 : Kd.V k55 55 w w.heap.size (fun k_ => P0_0_ k_) (.slice A0_0 l0_0.length c0_0) l0_0) (hr0_1 : Kd.C k61 w A0_1 l0_1.length l0_1) (hc0_1 : l0_1.length ≤ c0_1) (h : store_View.f k l0_0 l0_1 a0_2 a1 = some (r1, r2)) :
  Calls Try.prog 13 #[.agg #[.slice A0_0 l0_0.length c0_0, .slice A0_1 l0_1.length c0_1, .int .i64 a0_2], .int .i64 a1] w fun e w' => ∃ v0_ : Value, e = .returned (.agg #[v0_, .int .i64 r2]) ∧ Kd.N k38 38 w' w.heap.size (fun k_ => (P0_0_ k_ ∨ w.heap.size ≤ k_)) v0_ r1 ∧ Below w.heap.size w w' := by
 have hu25 := Try.underlying25
 have hu34 := Try.underlying34
 have hu55 := Try.underlying55
 have hu38 := Try.underlying38
 have HO0_0 := zqj (show Kd.V k55 55 w w.heap.size (fun k_ => (P0_0_ k_ ∨ w.heap.size ≤ k_)) (.slice A0_0 l0_0.length c0_0) l0_0 from Kd.V_mono hs0_0 (fun k_ hk => .inl hk))
 have HR0_1 := zqj hr0_1
 have HC0_1 := zqj hc0_1
 clear hr0_1 hc0_1
 have HB := zqj (Below.refl w.heap.size w)
 have H : (store_View.l0 k a1 l0_0 (l0_0.length : Int) 0 l0_0 l0_1 a0_2 ([] : List (S38)) 1) = some (r1, r2) := h
 clear h
 have H' := zqj H
 clear H
 go_enter Try.func13, Try.ntmps13
 go_wp2_with (first | ((with_reducible refine gate_dst (N := 2) rfl ?_); refine box_event ?hg (N := 2) ?hd (cs := #[.slice A0_0 l0_0.length c0_0, .slice A0_1 l0_1.length c0_1, .int .i64 a0_2]) (t := 25) ?hr ?_; (case hd => rfl); (case hg => rfl); (case hr => exact zrr); intro gb109 hg w3 hbox hb; have n0_ := zqj (Kd.V_below (Kd.V_elderB (zrV HO0_0.out) gb109 (Nat.le_of_eq hg.symm)) hb); have n1_ := zqj (below_step (zrd0 HB.out) hb); have n2_ := zqj (hbox); have n3_ := zqj ((by rw [hg]; exact (below_size (zrd0 HB.out)) : w.heap.size ≤ gb109)); have n4_ := zqj ((by rw [hg]; exact (below_size (zrd0 HB.out)) : w.heap.size ≤ gb109)); clear HO0_0; clear HB; have HO0_0 := n0_; have HB := n1_; have BK109 := n2_; have GW109 := n3_; have GE109 := n4_; clear n0_ n1_ n2_ n3_ n4_; clear hb hbox hg) | ((with_reducible refine gate_dst (N := 4) rfl ?_); refine box_event ?hg (N := 4) ?hd (cs := #[.slice none 0 0, .int .i64 0]) (t := 34) ?hr ?_; (case hd => rfl); (case hg => rfl); (case hr => exact zrr); intro gb110 hg w4 hbox hb; have n0_ := zqj (Kd.V_below (Kd.V_elderB (zrV HO0_0.out) gb110 (Nat.le_of_eq hg.symm)) hb); have n1_ := zqj (blk_below (g := gb109) (o := .cells #[.slice A0_0 l0_0.length c0_0, .slice A0_1 l0_1.length c0_1, .int .i64 a0_2] 25 (0, 0)) (zrb BK109.out) hb); have n2_ := zqj (below_step (zrd1 HB.out GE109.out) hb); have n3_ := zqj (hbox); have n4_ := zqj ((by rw [hg]; exact (below_size (zrd1 HB.out GE109.out)) : w.heap.size ≤ gb110)); have n5_ := zqj ((by rw [hg]; exact (below_size (zrd1 HB.out GE109.out)) : w.heap.size ≤ gb110)); have n6_ := zqj ((by rw [hg]; exact Nat.ne_of_lt (blk_lt (g := gb109) (o := .cells #[.slice A0_0 l0_0.length c0_0, .slice A0_1 l0_1.length c0_1, .int .i64 a0_2] 25 (0, 0)) (zrb BK109.out)) : gb109 ≠ gb110)); have n7_ := zqj ((by rw [hg]; exact Nat.ne_of_gt (blk_lt (g := gb109) (o := .cells #[.slice A0_0 l0_0.length c0_0, .slice A0_1 l0_1.length c0_1, .int .i64 a0_2] 25 (0, 0)) (zrb BK109.out)) : gb110 ≠ gb109)); clear HO0_0; clear BK109; clear HB; have HO0_0 := n0_; have BK109 := n1_; have HB := n2_; have BK110 := n3_; have GW110 := n4_; have GE110 := n5_; have NB109_110 := n6_; have NB110_109 := n7_; clear n0_ n1_ n2_ n3_ n4_ n5_ n6_ n7_; clear hb hbox hg) | ((with_reducible refine gate_dst (N := 5) rfl ?_); refine box_event ?hg (N := 5) ?hd (cs := #[.slice none 0 0, .int .i64 0]) (t := 34) ?hr ?_; (case hd => rfl); (case hg => rfl); (case hr => exact zrr); intro gb111 hg w5 hbox hb; have n0_ := zqj (Kd.V_below (Kd.V_elderB (zrV HO0_0.out) gb111 (Nat.le_of_eq hg.symm)) hb); have n1_ := zqj (blk_below (g := gb109) (o := .cells #[.slice A0_0 l0_0.length c0_0, .slice A0_1 l0_1.length c0_1, .int .i64 a0_2] 25 (0, 0)) (zrb BK109.out) hb); have n2_ := zqj (blk_below (g := gb110) (o := .cells #[.slice none 0 0, .int .i64 0] 34 (0, 0)) (zrb BK110.out) hb); have n3_ := zqj (below_step (zrd2 HB.out GE109.out GE110.out) hb); have n4_ := zqj (hbox); have n5_ := zqj ((by rw [hg]; exact (below_size (zrd2 HB.out GE109.out GE110.out)) : w.heap.size ≤ gb111)); have n6_ := zqj ((by rw [hg]; exact (below_size (zrd2 HB.out GE109.out GE110.out)) : w.heap.size ≤ gb111)); have n7_ := zqj ((by rw [hg]; exact Nat.ne_of_lt (blk_lt (g := gb109) (o := .cells #[.slice A0_0 l0_0.length c0_0, .slice A0_1 l0_1.length c0_1, .int .i64 a0_2] 25 (0, 0)) (zrb BK109.out)) : gb109 ≠ gb111)); have n8_ := zqj ((by rw [hg]; exact Nat.ne_of_gt (blk_lt (g := gb109) (o := .cells #[.slice A0_0 l0_0.length c0_0, .slice A0_1 l0_1.length c0_1, .int .i64 a0_2] 25 (0, 0)) (zrb BK109.out)) : gb111 ≠ gb109)); have n9_ := zqj ((by rw [hg]; exact Nat.ne_of_lt (blk_lt (g := gb110) (o := .cells #[.slice none 0 0, .int .i64 0] 34 (0, 0)) (zrb BK110.out)) : gb110 ≠ gb111)); have n10_ := zqj ((by rw [hg]; exact Nat.ne_of_gt (blk_lt (g := gb110) (o := .cells #[.slice none 0 0, .int .i64 0] 34 (0, 0)) (zrb BK110.out)) : gb111 ≠ gb110)); clear HO0_0; clear BK109; clear BK110; clear HB; have HO0_0 := n0_; have BK109 := n1_; have BK110 := n2_; have HB := n3_; have BK111 := n4_; have GW111 := n5_; have GE111 := n6_; have NB109_111 := n7_; have NB111_109 := n8_; have NB110_111 := n9_; have NB111_110 := n10_; clear n0_ n1_ n2_ n3_ n4_ n5_ n6_ n7_ n8_ n9_ n10_; clear hb hbox hg; have hnb6 := NB111_109.out; have hnc6 := NB109_111.out; have hnb7 := NB111_110.out; have hnc7 := NB110_111.out; obtain ⟨hcz8_0, hcz8_1⟩ := zc2 BK111.out; obtain ⟨hfz8_0, hfz8_1⟩ := zf2 BK111.out; have hnb9 := NB109_110.out; have hnc9 := NB110_109.out; obtain ⟨hcz10_0, hcz10_1, hcz10_2⟩ := zc3 BK109.out; obtain ⟨hfz10_0, hfz10_1, hfz10_2⟩ := zf3 BK109.out))
 go_loopg [14] k (fun kq v14 w' => ∃ (x14_1 : Int) (x112000_1 : List (S38)) (u112000 : Value), v14 = .int .i64 x14_1 ∧ Aside0 (store_View.l0 kq a1 l0_0 (l0_0.length : Int) x14_1 l0_0 l0_1 a0_2 x112000_1 1 = some (r1, r2)) ∧ Aside0 (kq ≤ k) ∧ Aside0 (Kd.V k55 55 w' w.heap.size (fun k_ => (P0_0_ k_ ∨ w.heap.size ≤ k_) ∧ some k_ ≠ (u112000 : Value).ownBlock ∧ k_ ≠ gb109 ∧ k_ ≠ gb110 ∧ k_ ≠ gb111) (.slice A0_0 l0_0.length c0_0) l0_0) ∧ Aside0 (Kd.V k55 55 w' w.heap.size (fun k_ => (P0_0_ k_ ∨ w.heap.size ≤ k_) ∧ some k_ ≠ (u112000 : Value).ownBlock ∧ k_ ≠ gb109 ∧ k_ ≠ gb110 ∧ k_ ≠ gb111) (.slice A0_0 l0_0.length c0_0) l0_0) ∧ Aside0 (Kd.N k38 38 w' w.heap.size (fun k_ => (P0_0_ k_ ∨ w.heap.size ≤ k_) ∧ k_ ≠ gb109 ∧ k_ ≠ gb110 ∧ k_ ≠ gb111) u112000 x112000_1) ∧ Aside0 (w'.heap[gb109]? = some (.cells #[(.slice A0_0 l0_0.length c0_0), (.slice A0_1 l0_1.length c0_1), .int .i64 a0_2] 25 (0, 0))) ∧ Aside0 (w'.heap[gb110]? = some (.cells #[(.slice none 0 0), .int .i64 0] 34 (0, 0))) ∧ Aside0 (w'.heap[gb111]? = some (.cells #[u112000, .int .i64 1] 34 (0, 0))) ∧ Aside0 (Below w.heap.size w w'))
 case atStart => exact ⟨(0), (([] : List (S38))), (.slice none 0 0), zrt, H', ⟨Nat.le_refl _⟩, ⟨by (with_reducible repeat (first | apply Kd.V_alloc | apply Kd.V_drewN | apply Kd.V_drew)); exact Kd.V_mono (Kd.V_far (p := ⟨gb111, 1, none⟩) (Kd.V_far (p := ⟨gb111, 0, none⟩) (Kd.V_mono HO0_0.out (fun k_ hk => (⟨hk, hk.2⟩ : _ ∧ k_ ≠ gb111))) (fun _ hk => hk.2) (.slice none 0 0)) (fun _ hk => hk.2) (.int .i64 1)) (fun _ hk => ⟨hk.1.1.1.1, ⟨(by simp [Value.ownBlock]), ⟨hk.1.1.1.2, ⟨hk.1.1.2, hk.1.2⟩⟩⟩⟩)⟩, ⟨by (with_reducible repeat (first | apply Kd.V_alloc | apply Kd.V_drewN | apply Kd.V_drew)); exact Kd.V_mono (Kd.V_far (p := ⟨gb111, 1, none⟩) (Kd.V_far (p := ⟨gb111, 0, none⟩) (Kd.V_mono HO0_0.out (fun k_ hk => (⟨hk, hk.2⟩ : _ ∧ k_ ≠ gb111))) (fun _ hk => hk.2) (.slice none 0 0)) (fun _ hk => hk.2) (.int .i64 1)) (fun _ hk => ⟨hk.1.1.1.1, ⟨(by simp [Value.ownBlock]), ⟨hk.1.1.1.2, ⟨hk.1.1.2, hk.1.2⟩⟩⟩⟩)⟩, ⟨by first | exact Kd.S_nil _ _ _ _ _ | exact Kd.N_nil _ _ _ _ _ | exact Kd.V_nil _ _ _ _ _ | exact Kd.Q_nil _ _ _ _ _ | exact Kd.R_nil _ _ _ _ _⟩, ⟨by (iterate 2 ((with_reducible repeat (first | refine zqa ?_ _ | refine zqb ?_ | refine zqc ?_ _)); refine blk_far ?_ NB109_111.out _)); (with_reducible repeat (first | refine zqa ?_ _ | refine zqb ?_ | refine zqc ?_ _)); exact BK109.out⟩, ⟨by (iterate 2 ((with_reducible repeat (first | refine zqa ?_ _ | refine zqb ?_ | refine zqc ?_ _)); refine blk_far ?_ NB110_111.out _)); (with_reducible repeat (first | refine zqa ?_ _ | refine zqb ?_ | refine zqc ?_ _)); exact BK110.out⟩, ⟨by (with_reducible repeat (first | refine zqa ?_ _ | refine zqb ?_ | refine zqc ?_ _)); refine blk_put (cs := #[.slice none 0 0, .int .i64 0]) ?_ 1 _ rfl; (with_reducible repeat (first | refine zqa ?_ _ | refine zqb ?_ | refine zqc ?_ _)); refine blk_put (cs := #[.slice none 0 0, .int .i64 0]) ?_ 0 _ rfl; (with_reducible repeat (first | refine zqa ?_ _ | refine zqb ?_ | refine zqc ?_ _)); exact BK111.out⟩, ⟨by repeat (first | (with_reducible first | exact HB.out | apply zqg | apply zqe | apply zqf | refine zqd ?_ GE109.out | refine zqd ?_ GE110.out | refine zqd ?_ GE111.out) | exact HB.out)⟩⟩
 case round =>
  clear H'
  ((try clear c1); (try clear p2); (try clear c6); (try clear c7); (try clear c9); (try clear hcz10_0); (try clear hcz10_1); (try clear hcz10_2); (try clear hcz8_0); (try clear hcz8_1); (try clear hfz10_0); (try clear hfz10_1); (try clear hfz10_2); (try clear hfz8_0); (try clear hfz8_1))
  obtain ⟨x14_1, x112000_1, u112000, rfl, HA, HK1, HO_12, HO_110000, HO_112000, BK109, BK110, BK111, HB⟩ := hrel
  cases gk with
  | zero => exact absurd HA.out (by simp [store_View.l0])
  | succ k1 =>
   (have H := HA.out; clear HA)
   simp only [store_View.l0] at H
   by_cases c11 : x14_1 < (l0_0.length : Int)
   ·rw [if_pos c11] at H
    have c11b0 : decide (x14_1 < (l0_0.length : Int)) = true := decide_eq_true c11
    clear c11
    by_cases c12 : 0 ≤ x14_1
    ·rw [if_pos c12] at H
     have c12b0 : decide (0 ≤ x14_1) = true := decide_eq_true c12
     clear c12
     by_cases c13 : x14_1 < (l0_0.length : Int)
     ·rw [if_pos c13] at H
      have c13b0 : decide (x14_1 < (l0_0.length : Int)) = true := decide_eq_true c13
      clear c13
      replace H := zqn H
      obtain ⟨t114, A140, H⟩ := H
      replace H : (if t114 ≥ 0 then (if 0 ≤ t114 then (if t114 < (((rd_T55 l0_0 x14_1).f1).length : Int) then (if ((rd_T58 ((rd_T55 l0_0 x14_1).f1) t114).f1 = true) then (store_View.l0 k1 a1 l0_0 (l0_0.length : Int) (wrap64 (x14_1 + 1)) l0_0 l0_1 a0_2 x112000_1 1) else (if x112000_1.length < 2199023255552 then (store_View.l0 k1 a1 l0_0 (l0_0.length : Int) (wrap64 (x14_1 + 1)) l0_0 l0_1 a0_2 (x112000_1 ++ [(⟨(rd_T58 ((rd_T55 l0_0 x14_1).f1) t114).f2.f0, (rd_T58 ((rd_T55 l0_0 x14_1).f1) t114).f2.f1, (rd_T58 ((rd_T55 l0_0 x14_1).f1) t114).f2.f2, (rd_T58 ((rd_T55 l0_0 x14_1).f1) t114).f2.f3, (rd_T58 ((rd_T55 l0_0 x14_1).f1) t114).f2.f4⟩ : S38)]) 1) else (none))) else (none)) else (none)) else (store_View.l0 k1 a1 l0_0 (l0_0.length : Int) (wrap64 (x14_1 + 1)) l0_0 l0_1 a0_2 x112000_1 1)) = some (r1, r2) := H
      have A14 := zqj A140
      clear A140
      by_cases c15 : t114 ≥ 0
      ·rw [if_pos c15] at H
       have c15b0 : decide (0 ≤ t114) = true := decide_eq_true c15
       clear c15
       by_cases c16 : 0 ≤ t114
       ·rw [if_pos c16] at H
        have c16b0 : decide (0 ≤ t114) = true := decide_eq_true c16
        clear c16
        by_cases c17 : t114 < (((rd_T55 l0_0 x14_1).f1).length : Int)
        ·rw [if_pos c17] at H
         have c17b0 : decide (t114 < (((rd_T55 l0_0 x14_1).f1).length : Int)) = true := decide_eq_true c17
         clear c17
         obtain ⟨bq18, hbq18⟩ : ∃ b_ : Bool, b_ = ((rd_T58 ((rd_T55 l0_0 x14_1).f1) t114).f1) := ⟨_, rfl⟩
         replace H : (if (bq18 = true) then (store_View.l0 k1 a1 l0_0 (l0_0.length : Int) (wrap64 (x14_1 + 1)) l0_0 l0_1 a0_2 x112000_1 1) else (if x112000_1.length < 2199023255552 then (store_View.l0 k1 a1 l0_0 (l0_0.length : Int) (wrap64 (x14_1 + 1)) l0_0 l0_1 a0_2 (x112000_1 ++ [(⟨(rd_T58 ((rd_T55 l0_0 x14_1).f1) t114).f2.f0, (rd_T58 ((rd_T55 l0_0 x14_1).f1) t114).f2.f1, (rd_T58 ((rd_T55 l0_0 x14_1).f1) t114).f2.f2, (rd_T58 ((rd_T55 l0_0 x14_1).f1) t114).f2.f3, (rd_T58 ((rd_T55 l0_0 x14_1).f1) t114).f2.f4⟩ : S38)]) 1) else (none))) = some (r1, r2) := by rw [← hbq18] at H; exact H
         have Nbq18 := zqj hbq18
         clear hbq18
         by_cases c19 : (bq18 = true)
         ·subst c19
          have H1 : (store_View.l0 k1 a1 l0_0 (l0_0.length : Int) (wrap64 (x14_1 + 1)) l0_0 l0_1 a0_2 x112000_1 1) = some (r1, r2) := by rw [if_pos rfl] at H; exact H
          clear H
          have H := H1
          clear H1
          have H' := zqj H
          clear H
          have p112 : 0 ≤ (x14_1 : Int) := zqh zrs
          have q112 : x14_1 < (l0_0.length : Int) := zqh zrs
          obtain ⟨ad112, A112_1, c112_1, e112, hx112_0, hx112_1, hl112_1, hi112_1⟩ := at_T55 (Kd.V_reads' HO_12.out).2.2 x14_1 p112 q112
          cases e112
          obtain ⟨ce112, hce112, hMe112, hcc112⟩ := Kd.V_get HO_12.out z55 x14_1 p112 (by first | exact q112 | exact zqh zrs | (have e_ := (Kd.V_reads' HO_12.out).1; omega))
          obtain ⟨ua112_1, uc112_1, rfl, ul112_1, ge112_1⟩ := k55_openF hMe112
          have hv112_1 := hcc112 1 _ rfl
          rw [add_field _ _ 1 (by omega)] at hv112_1
          replace hv112_1 := Option.some.inj (hv112_1.symm.trans hx112_1)
          injection hv112_1 with hva_ hvn_ hvc_
          rw [hva_] at ge112_1
          rw [hvc_] at ul112_1
          have HL112_1 := zqj (show Kd.V k58 58 _ w.heap.size _ _ ((rd_T55 l0_0 x14_1).f1) from Kd.V_mk ul112_1 ge112_1)
          (clear hva_ hvn_ hvc_ ge112_1 ul112_1; clear hcc112 hce112)
          have HR112_1 := zqj hi112_1
          have HC112_1 := zqj hl112_1
          clear hi112_1 hl112_1
          replace p112 := eq_true p112
          replace q112 := eq_true q112
          go_wp2_with (first | ((with_reducible refine gate_dst (N := 7) rfl ?_); refine box_event ?hg (N := 7) ?hd (cs := #[.int .i64 0, .slice none 0 0]) (t := 55) ?hr ?_; (case hd => rfl); (case hg => rfl); (case hr => exact zrr); intro gb113 hg w20 hbox hb; have n0_ := zqj (Kd.V_below (Kd.V_elderB (zrV HO_12.out) gb113 (Nat.le_of_eq hg.symm)) hb); have n1_ := zqj (Kd.V_below (Kd.V_elderB (zrV HO_110000.out) gb113 (Nat.le_of_eq hg.symm)) hb); have n2_ := zqj (Kd.N_below (Kd.N_elderB (zrN HO_112000.out) gb113 (Nat.le_of_eq hg.symm)) hb); have n3_ := zqj (Kd.V_below (Kd.V_elderB (zrV HL112_1.out) gb113 (Nat.le_of_eq hg.symm)) hb); have n4_ := zqj (blk_below (g := gb109) (o := .cells #[.slice (some ad112) l0_0.length c0_0, .slice A0_1 l0_1.length c0_1, .int .i64 a0_2] 25 (0, 0)) (zrb BK109.out) hb); have n5_ := zqj (blk_below (g := gb110) (o := .cells #[.slice none 0 0, .int .i64 0] 34 (0, 0)) (zrb BK110.out) hb); have n6_ := zqj (blk_below (g := gb111) (o := .cells #[u112000, .int .i64 1] 34 (0, 0)) (zrb BK111.out) hb); have n7_ := zqj (Kd.C_below (by repeat (first | (with_reducible exact HR112_1.out) | (with_reducible refine Kd.C_alloc ?_ _) | (with_reducible refine Kd.C_drewN ?_ _) | (with_reducible refine Kd.C_drew ?_) | exact HR112_1.out | exact (Kd.V_reads' HL112_1.out).2.2)) hb); have n8_ := zqj (below_step (zrd3 HB.out GE109.out GE110.out GE111.out) hb); have n9_ := zqj (hbox); have n10_ := zqj ((by rw [hg]; exact (below_size (zrd3 HB.out GE109.out GE110.out GE111.out)) : w.heap.size ≤ gb113)); have n11_ := zqj ((by rw [hg]; exact (below_size (zrd3 HB.out GE109.out GE110.out GE111.out)) : w.heap.size ≤ gb113)); have n12_ := zqj ((by rw [hg]; exact Nat.ne_of_lt (blk_lt (g := gb109) (o := .cells #[.slice (some ad112) l0_0.length c0_0, .slice A0_1 l0_1.length c0_1, .int .i64 a0_2] 25 (0, 0)) (zrb BK109.out)) : gb109 ≠ gb113)); have n13_ := zqj ((by rw [hg]; exact Nat.ne_of_gt (blk_lt (g := gb109) (o := .cells #[.slice (some ad112) l0_0.length c0_0, .slice A0_1 l0_1.length c0_1, .int .i64 a0_2] 25 (0, 0)) (zrb BK109.out)) : gb113 ≠ gb109)); have n14_ := zqj ((by rw [hg]; exact Nat.ne_of_lt (blk_lt (g := gb110) (o := .cells #[.slice none 0 0, .int .i64 0] 34 (0, 0)) (zrb BK110.out)) : gb110 ≠ gb113)); have n15_ := zqj ((by rw [hg]; exact Nat.ne_of_gt (blk_lt (g := gb110) (o := .cells #[.slice none 0 0, .int .i64 0] 34 (0, 0)) (zrb BK110.out)) : gb113 ≠ gb110)); have n16_ := zqj ((by rw [hg]; exact Nat.ne_of_lt (blk_lt (g := gb111) (o := .cells #[u112000, .int .i64 1] 34 (0, 0)) (zrb BK111.out)) : gb111 ≠ gb113)); have n17_ := zqj ((by rw [hg]; exact Nat.ne_of_gt (blk_lt (g := gb111) (o := .cells #[u112000, .int .i64 1] 34 (0, 0)) (zrb BK111.out)) : gb113 ≠ gb111)); clear HO_12; clear HO_110000; clear HO_112000; clear HL112_1; clear BK109; clear BK110; clear BK111; clear HR112_1; clear HB; have HO_12 := n0_; have HO_110000 := n1_; have HO_112000 := n2_; have HL112_1 := n3_; have BK109 := n4_; have BK110 := n5_; have BK111 := n6_; have HR112_1 := n7_; have HB := n8_; have BK113 := n9_; have GW113 := n10_; have GE113 := n11_; have NB109_113 := n12_; have NB113_109 := n13_; have NB110_113 := n14_; have NB113_110 := n15_; have NB111_113 := n16_; have NB113_111 := n17_; clear n0_ n1_ n2_ n3_ n4_ n5_ n6_ n7_ n8_ n9_ n10_ n11_ n12_ n13_ n14_ n15_ n16_ n17_; clear hb hbox hg; have hnb21 := NB113_109.out; have hnc21 := NB109_113.out; have hnb22 := NB113_110.out; have hnc22 := NB110_113.out; have hnb23 := NB113_111.out; have hnc23 := NB111_113.out; obtain ⟨hcz24_0, hcz24_1⟩ := zc2 BK113.out; obtain ⟨hfz24_0, hfz24_1⟩ := zf2 BK113.out) | ((with_reducible refine gate_callee (f := 31) rfl ?_); refine goesL_ (some 21) rfl rfl Try.func31 (by kernel_rfl) rfl #[.slice A112_1 ((rd_T55 l0_0 x14_1).f1).length c112_1, .int .i64 a1, .func (.func 32) #[] #[]] rfl zra ?_; (with_reducible refine (api_Ver.calls k1 _ _ ((rd_T55 l0_0 x14_1).f1) a1 () t114 _ ?side1 ?side2 A14.out).mono ?_); (case side1 => repeat (first | exact ((Kd.V_reads' (by (with_reducible repeat (first | apply Kd.V_alloc | apply Kd.V_drewN | apply Kd.V_drew)); exact (Kd.V_mono (Kd.V_far (p := ⟨gb113, 1, none⟩) (Kd.V_far (p := ⟨gb113, 0, none⟩) (Kd.V_mono HL112_1.out (fun k_ hk => (⟨hk, hk.2⟩ : _ ∧ k_ ≠ gb113))) (fun _ hk => hk.2) (.int .i64 ((rd_T55 l0_0 x14_1).f0))) (fun _ hk => hk.2) (.slice A112_1 ((rd_T55 l0_0 x14_1).f1).length c112_1)) (fun _ h_ => h_.1)))).2.2) | (with_reducible refine Kd.C_alloc ?_ _) | (with_reducible refine Kd.C_drewN ?_ _) | (with_reducible refine Kd.C_drew ?_))); (case side2 => exact HC112_1.out); rintro e w25 ⟨rfl, hb⟩; refine ⟨_, rfl, ?_⟩; have n0_ := zqj (Kd.V_below (by (with_reducible repeat (first | apply Kd.V_alloc | apply Kd.V_drewN | apply Kd.V_drew)); exact (Kd.V_mono (Kd.V_far (p := ⟨gb113, 1, none⟩) (Kd.V_far (p := ⟨gb113, 0, none⟩) (Kd.V_mono HO_12.out (fun k_ hk => (⟨hk, hk.2⟩ : _ ∧ k_ ≠ gb113))) (fun _ hk => hk.2) (.int .i64 ((rd_T55 l0_0 x14_1).f0))) (fun _ hk => hk.2) (.slice A112_1 ((rd_T55 l0_0 x14_1).f1).length c112_1)) (fun _ h_ => h_.1))) hb); have n1_ := zqj (Kd.V_below (by (with_reducible repeat (first | apply Kd.V_alloc | apply Kd.V_drewN | apply Kd.V_drew)); exact (Kd.V_mono (Kd.V_far (p := ⟨gb113, 1, none⟩) (Kd.V_far (p := ⟨gb113, 0, none⟩) (Kd.V_mono HO_110000.out (fun k_ hk => (⟨hk, hk.2⟩ : _ ∧ k_ ≠ gb113))) (fun _ hk => hk.2) (.int .i64 ((rd_T55 l0_0 x14_1).f0))) (fun _ hk => hk.2) (.slice A112_1 ((rd_T55 l0_0 x14_1).f1).length c112_1)) (fun _ h_ => h_.1))) hb); have n2_ := zqj (Kd.N_below (by (with_reducible repeat (first | apply Kd.N_alloc | apply Kd.N_drewN | apply Kd.N_drew)); exact (Kd.N_mono (Kd.N_far (p := ⟨gb113, 1, none⟩) (Kd.N_far (p := ⟨gb113, 0, none⟩) (Kd.N_mono HO_112000.out (fun k_ hk => (⟨hk, hk.2⟩ : _ ∧ k_ ≠ gb113))) (fun _ hk => hk.2) (.int .i64 ((rd_T55 l0_0 x14_1).f0))) (fun _ hk => hk.2) (.slice A112_1 ((rd_T55 l0_0 x14_1).f1).length c112_1)) (fun _ h_ => h_.1))) hb); have n3_ := zqj (Kd.V_below (by (with_reducible repeat (first | apply Kd.V_alloc | apply Kd.V_drewN | apply Kd.V_drew)); exact (Kd.V_mono (Kd.V_far (p := ⟨gb113, 1, none⟩) (Kd.V_far (p := ⟨gb113, 0, none⟩) (Kd.V_mono HL112_1.out (fun k_ hk => (⟨hk, hk.2⟩ : _ ∧ k_ ≠ gb113))) (fun _ hk => hk.2) (.int .i64 ((rd_T55 l0_0 x14_1).f0))) (fun _ hk => hk.2) (.slice A112_1 ((rd_T55 l0_0 x14_1).f1).length c112_1)) (fun _ h_ => h_.1))) hb); have n4_ := zqj (blk_below (g := gb109) (o := .cells #[.slice (some ad112) l0_0.length c0_0, .slice A0_1 l0_1.length c0_1, .int .i64 a0_2] 25 (0, 0)) (by (iterate 2 ((with_reducible repeat (first | refine zqa ?_ _ | refine zqb ?_ | refine zqc ?_ _)); refine blk_far ?_ NB109_113.out _)); (with_reducible repeat (first | refine zqa ?_ _ | refine zqb ?_ | refine zqc ?_ _)); exact BK109.out) hb); have n5_ := zqj (blk_below (g := gb110) (o := .cells #[.slice none 0 0, .int .i64 0] 34 (0, 0)) (by (iterate 2 ((with_reducible repeat (first | refine zqa ?_ _ | refine zqb ?_ | refine zqc ?_ _)); refine blk_far ?_ NB110_113.out _)); (with_reducible repeat (first | refine zqa ?_ _ | refine zqb ?_ | refine zqc ?_ _)); exact BK110.out) hb); have n6_ := zqj (blk_below (g := gb111) (o := .cells #[u112000, .int .i64 1] 34 (0, 0)) (by (iterate 2 ((with_reducible repeat (first | refine zqa ?_ _ | refine zqb ?_ | refine zqc ?_ _)); refine blk_far ?_ NB111_113.out _)); (with_reducible repeat (first | refine zqa ?_ _ | refine zqb ?_ | refine zqc ?_ _)); exact BK111.out) hb); have n7_ := zqj (Kd.C_below ((Kd.V_reads' (by (with_reducible repeat (first | apply Kd.V_alloc | apply Kd.V_drewN | apply Kd.V_drew)); exact (Kd.V_mono (Kd.V_far (p := ⟨gb113, 1, none⟩) (Kd.V_far (p := ⟨gb113, 0, none⟩) (Kd.V_mono HL112_1.out (fun k_ hk => (⟨hk, hk.2⟩ : _ ∧ k_ ≠ gb113))) (fun _ hk => hk.2) (.int .i64 ((rd_T55 l0_0 x14_1).f0))) (fun _ hk => hk.2) (.slice A112_1 ((rd_T55 l0_0 x14_1).f1).length c112_1)) (fun _ h_ => h_.1)))).2.2) hb); have n8_ := zqj (blk_below (g := gb113) (o := .cells #[.int .i64 ((rd_T55 l0_0 x14_1).f0), .slice A112_1 ((rd_T55 l0_0 x14_1).f1).length c112_1] 55 (0, 0)) (by (with_reducible repeat (first | refine zqa ?_ _ | refine zqb ?_ | refine zqc ?_ _)); refine blk_put (cs := #[.int .i64 ((rd_T55 l0_0 x14_1).f0), .slice none 0 0]) ?_ 1 _ rfl; (with_reducible repeat (first | refine zqa ?_ _ | refine zqb ?_ | refine zqc ?_ _)); refine blk_put (cs := #[.int .i64 0, .slice none 0 0]) ?_ 0 _ rfl; (with_reducible repeat (first | refine zqa ?_ _ | refine zqb ?_ | refine zqc ?_ _)); exact BK113.out) hb); have n9_ := zqj (below_step (zrd4 HB.out GE109.out GE110.out GE111.out GE113.out) hb); clear HO_12; clear HO_110000; clear HO_112000; clear HL112_1; clear BK109; clear BK110; clear BK111; clear HR112_1; clear BK113; clear HB; have HO_12 := n0_; have HO_110000 := n1_; have HO_112000 := n2_; have HL112_1 := n3_; have BK109 := n4_; have BK110 := n5_; have BK111 := n6_; have HR112_1 := n7_; have BK113 := n8_; have HB := n9_; clear n0_ n1_ n2_ n3_ n4_ n5_ n6_ n7_ n8_ n9_; (try clear hb); (try clear hb2); (try clear hk); (try clear hi); obtain ⟨hcz26_0, hcz26_1⟩ := zc2 BK113.out; obtain ⟨hfz26_0, hfz26_1⟩ := zf2 BK113.out; have p115 : 0 ≤ (t114 : Int) := zqh zrs; have q115 : t114 < (((rd_T55 l0_0 x14_1).f1).length : Int) := zqh zrs; obtain ⟨ad115, A115_6, c115_6, e115, hx115_0, hx115_1, hx115_2, hx115_3, hx115_4, hx115_5, hx115_6, hl115_6, hi115_6⟩ := at_T58 (by repeat (first | (with_reducible exact HR112_1.out) | (with_reducible refine Kd.C_alloc ?_ _) | (with_reducible refine Kd.C_drewN ?_ _) | (with_reducible refine Kd.C_drew ?_) | exact HR112_1.out | exact (Kd.V_reads' HL112_1.out).2.2)) t114 p115 q115; (try rw [← Nbq18.out] at hx115_1); cases e115; obtain ⟨ce115, hce115, hMe115, hcc115⟩ := Kd.V_get HL112_1.out z58 t114 p115 (by first | exact q115 | exact zqh zrs | (have e_ := (Kd.V_reads' HL112_1.out).1; omega)); obtain ⟨ua115_6, uc115_6, rfl, ul115_6, ge115_6⟩ := k58_openF hMe115; have hv115_6 := hcc115 6 _ rfl; rw [add_field _ _ 6 (by omega)] at hv115_6; replace hv115_6 := Option.some.inj (hv115_6.symm.trans hx115_6); injection hv115_6 with hva_ hvn_ hvc_; rw [hva_] at ge115_6; rw [hvc_] at ul115_6; have HL115_6 := zqj (show Kd.V k91 91 _ w.heap.size _ _ ((rd_T58 ((rd_T55 l0_0 x14_1).f1) t114).f2.f4) from Kd.V_mk ul115_6 ge115_6); clear hva_ hvn_ hvc_ ge115_6 ul115_6; clear hcc115 hce115; have HR115_6 := zqj hi115_6; have HC115_6 := zqj hl115_6; clear hi115_6 hl115_6; replace p115 := eq_true p115; replace q115 := eq_true q115))
          go_roundg k1
          case measure => have := HK1.out; omega
          case rel => exact ⟨(wrap64 (x14_1 + 1)), (x112000_1), (u112000), zrt, H', ⟨by have := HK1.out; omega⟩, ⟨by (with_reducible repeat (first | apply Kd.V_alloc | apply Kd.V_drewN | apply Kd.V_drew)); exact Kd.V_mono HO_12.out (fun _ hk => ⟨hk.1.1, ⟨hk.1.2.1, ⟨hk.1.2.2.1, ⟨hk.1.2.2.2.1, hk.1.2.2.2.2⟩⟩⟩⟩)⟩, ⟨by (with_reducible repeat (first | apply Kd.V_alloc | apply Kd.V_drewN | apply Kd.V_drew)); exact Kd.V_mono HO_110000.out (fun _ hk => ⟨hk.1.1, ⟨hk.1.2.1, ⟨hk.1.2.2.1, ⟨hk.1.2.2.2.1, hk.1.2.2.2.2⟩⟩⟩⟩)⟩, ⟨by (with_reducible repeat (first | apply Kd.N_alloc | apply Kd.N_drewN | apply Kd.N_drew)); exact Kd.N_mono HO_112000.out (fun _ hk => ⟨hk.1.1, ⟨hk.1.2.1, ⟨hk.1.2.2.1, hk.1.2.2.2⟩⟩⟩)⟩, ⟨by (with_reducible repeat (first | refine zqa ?_ _ | refine zqb ?_ | refine zqc ?_ _)); exact BK109.out⟩, ⟨by (with_reducible repeat (first | refine zqa ?_ _ | refine zqb ?_ | refine zqc ?_ _)); exact BK110.out⟩, ⟨by (with_reducible repeat (first | refine zqa ?_ _ | refine zqb ?_ | refine zqc ?_ _)); exact BK111.out⟩, ⟨by repeat (first | (with_reducible first | exact HB.out | apply zqg | apply zqe | apply zqf | refine zqd ?_ GE109.out | refine zqd ?_ GE110.out | refine zqd ?_ GE111.out | refine zqd ?_ GE113.out) | exact HB.out)⟩⟩
         ·replace c19 := Bool.eq_false_iff.mpr c19
          subst c19
          have H1 : (if x112000_1.length < 2199023255552 then (store_View.l0 k1 a1 l0_0 (l0_0.length : Int) (wrap64 (x14_1 + 1)) l0_0 l0_1 a0_2 (x112000_1 ++ [(⟨(rd_T58 ((rd_T55 l0_0 x14_1).f1) t114).f2.f0, (rd_T58 ((rd_T55 l0_0 x14_1).f1) t114).f2.f1, (rd_T58 ((rd_T55 l0_0 x14_1).f1) t114).f2.f2, (rd_T58 ((rd_T55 l0_0 x14_1).f1) t114).f2.f3, (rd_T58 ((rd_T55 l0_0 x14_1).f1) t114).f2.f4⟩ : S38)]) 1) else (none)) = some (r1, r2) := by rw [if_neg (show ¬ (false = true) by decide)] at H; exact H
          clear H
          have H := H1
          clear H1
          by_cases c27 : x112000_1.length < 2199023255552
          ·rw [if_pos c27] at H
           have LMc27 := zqj c27
           clear c27
           obtain ⟨y117, hy117⟩ : ∃ y_ : List (S38), y_ = (x112000_1 ++ [(⟨(rd_T58 ((rd_T55 l0_0 x14_1).f1) t114).f2.f0, (rd_T58 ((rd_T55 l0_0 x14_1).f1) t114).f2.f1, (rd_T58 ((rd_T55 l0_0 x14_1).f1) t114).f2.f2, (rd_T58 ((rd_T55 l0_0 x14_1).f1) t114).f2.f3, (rd_T58 ((rd_T55 l0_0 x14_1).f1) t114).f2.f4⟩ : S38)]) := ⟨_, rfl⟩
           replace H : (store_View.l0 k1 a1 l0_0 (l0_0.length : Int) (wrap64 (x14_1 + 1)) l0_0 l0_1 a0_2 y117 1) = some (r1, r2) := by first | (rw [hy117]; with_reducible exact H) | (have H2_ := (Option.bind_some _ _).symm.trans H; rw [hy117]; with_reducible exact H2_) | (have H2_ := (Option.bind_some _ _).symm.trans H; with_reducible exact H2_) | with_reducible exact H | (rw [hy117]; exact H) | exact H
           have Ny117 := zqj hy117
           clear hy117
           have H' := zqj H
           clear H
           have p112 : 0 ≤ (x14_1 : Int) := zqh zrs
           have q112 : x14_1 < (l0_0.length : Int) := zqh zrs
           obtain ⟨ad112, A112_1, c112_1, e112, hx112_0, hx112_1, hl112_1, hi112_1⟩ := at_T55 (Kd.V_reads' HO_12.out).2.2 x14_1 p112 q112
           cases e112
           obtain ⟨ce112, hce112, hMe112, hcc112⟩ := Kd.V_get HO_12.out z55 x14_1 p112 (by first | exact q112 | exact zqh zrs | (have e_ := (Kd.V_reads' HO_12.out).1; omega))
           obtain ⟨ua112_1, uc112_1, rfl, ul112_1, ge112_1⟩ := k55_openF hMe112
           have hv112_1 := hcc112 1 _ rfl
           rw [add_field _ _ 1 (by omega)] at hv112_1
           replace hv112_1 := Option.some.inj (hv112_1.symm.trans hx112_1)
           injection hv112_1 with hva_ hvn_ hvc_
           rw [hva_] at ge112_1
           rw [hvc_] at ul112_1
           have HL112_1 := zqj (show Kd.V k58 58 _ w.heap.size _ _ ((rd_T55 l0_0 x14_1).f1) from Kd.V_mk ul112_1 ge112_1)
           (clear hva_ hvn_ hvc_ ge112_1 ul112_1; clear hcc112 hce112)
           have HR112_1 := zqj hi112_1
           have HC112_1 := zqj hl112_1
           clear hi112_1 hl112_1
           replace p112 := eq_true p112
           replace q112 := eq_true q112
           try go_wp2_with (first | ((with_reducible refine gate_dst (N := 7) rfl ?_); refine box_event ?hg (N := 7) ?hd (cs := #[.int .i64 0, .slice none 0 0]) (t := 55) ?hr ?_; (case hd => rfl); (case hg => rfl); (case hr => exact zrr); intro gb113 hg w28 hbox hb; have n0_ := zqj (Kd.V_below (Kd.V_elderB (zrV HO_12.out) gb113 (Nat.le_of_eq hg.symm)) hb); have n1_ := zqj (Kd.V_below (Kd.V_elderB (zrV HO_110000.out) gb113 (Nat.le_of_eq hg.symm)) hb); have n2_ := zqj (Kd.N_below (Kd.N_elderB (zrN HO_112000.out) gb113 (Nat.le_of_eq hg.symm)) hb); have n3_ := zqj (Kd.V_below (Kd.V_elderB (zrV HL112_1.out) gb113 (Nat.le_of_eq hg.symm)) hb); have n4_ := zqj (blk_below (g := gb109) (o := .cells #[.slice (some ad112) l0_0.length c0_0, .slice A0_1 l0_1.length c0_1, .int .i64 a0_2] 25 (0, 0)) (zrb BK109.out) hb); have n5_ := zqj (blk_below (g := gb110) (o := .cells #[.slice none 0 0, .int .i64 0] 34 (0, 0)) (zrb BK110.out) hb); have n6_ := zqj (blk_below (g := gb111) (o := .cells #[u112000, .int .i64 1] 34 (0, 0)) (zrb BK111.out) hb); have n7_ := zqj (Kd.C_below (by repeat (first | (with_reducible exact HR112_1.out) | (with_reducible refine Kd.C_alloc ?_ _) | (with_reducible refine Kd.C_drewN ?_ _) | (with_reducible refine Kd.C_drew ?_) | exact HR112_1.out | exact (Kd.V_reads' HL112_1.out).2.2)) hb); have n8_ := zqj (below_step (zrd3 HB.out GE109.out GE110.out GE111.out) hb); have n9_ := zqj (hbox); have n10_ := zqj ((by rw [hg]; exact (below_size (zrd3 HB.out GE109.out GE110.out GE111.out)) : w.heap.size ≤ gb113)); have n11_ := zqj ((by rw [hg]; exact (below_size (zrd3 HB.out GE109.out GE110.out GE111.out)) : w.heap.size ≤ gb113)); have n12_ := zqj ((by rw [hg]; exact Nat.ne_of_lt (blk_lt (g := gb109) (o := .cells #[.slice (some ad112) l0_0.length c0_0, .slice A0_1 l0_1.length c0_1, .int .i64 a0_2] 25 (0, 0)) (zrb BK109.out)) : gb109 ≠ gb113)); have n13_ := zqj ((by rw [hg]; exact Nat.ne_of_gt (blk_lt (g := gb109) (o := .cells #[.slice (some ad112) l0_0.length c0_0, .slice A0_1 l0_1.length c0_1, .int .i64 a0_2] 25 (0, 0)) (zrb BK109.out)) : gb113 ≠ gb109)); have n14_ := zqj ((by rw [hg]; exact Nat.ne_of_lt (blk_lt (g := gb110) (o := .cells #[.slice none 0 0, .int .i64 0] 34 (0, 0)) (zrb BK110.out)) : gb110 ≠ gb113)); have n15_ := zqj ((by rw [hg]; exact Nat.ne_of_gt (blk_lt (g := gb110) (o := .cells #[.slice none 0 0, .int .i64 0] 34 (0, 0)) (zrb BK110.out)) : gb113 ≠ gb110)); have n16_ := zqj ((by rw [hg]; exact Nat.ne_of_lt (blk_lt (g := gb111) (o := .cells #[u112000, .int .i64 1] 34 (0, 0)) (zrb BK111.out)) : gb111 ≠ gb113)); have n17_ := zqj ((by rw [hg]; exact Nat.ne_of_gt (blk_lt (g := gb111) (o := .cells #[u112000, .int .i64 1] 34 (0, 0)) (zrb BK111.out)) : gb113 ≠ gb111)); clear HO_12; clear HO_110000; clear HO_112000; clear HL112_1; clear BK109; clear BK110; clear BK111; clear HR112_1; clear HB; have HO_12 := n0_; have HO_110000 := n1_; have HO_112000 := n2_; have HL112_1 := n3_; have BK109 := n4_; have BK110 := n5_; have BK111 := n6_; have HR112_1 := n7_; have HB := n8_; have BK113 := n9_; have GW113 := n10_; have GE113 := n11_; have NB109_113 := n12_; have NB113_109 := n13_; have NB110_113 := n14_; have NB113_110 := n15_; have NB111_113 := n16_; have NB113_111 := n17_; clear n0_ n1_ n2_ n3_ n4_ n5_ n6_ n7_ n8_ n9_ n10_ n11_ n12_ n13_ n14_ n15_ n16_ n17_; clear hb hbox hg; have hnb29 := NB113_109.out; have hnc29 := NB109_113.out; have hnb30 := NB113_110.out; have hnc30 := NB110_113.out; have hnb31 := NB113_111.out; have hnc31 := NB111_113.out; obtain ⟨hcz32_0, hcz32_1⟩ := zc2 BK113.out; obtain ⟨hfz32_0, hfz32_1⟩ := zf2 BK113.out) | ((with_reducible refine gate_callee (f := 31) rfl ?_); refine goesL_ (some 21) rfl rfl Try.func31 (by kernel_rfl) rfl #[.slice A112_1 ((rd_T55 l0_0 x14_1).f1).length c112_1, .int .i64 a1, .func (.func 32) #[] #[]] rfl zra ?_; (with_reducible refine (api_Ver.calls k1 _ _ ((rd_T55 l0_0 x14_1).f1) a1 () t114 _ ?side1 ?side2 A14.out).mono ?_); (case side1 => repeat (first | exact ((Kd.V_reads' (by (with_reducible repeat (first | apply Kd.V_alloc | apply Kd.V_drewN | apply Kd.V_drew)); exact (Kd.V_mono (Kd.V_far (p := ⟨gb113, 1, none⟩) (Kd.V_far (p := ⟨gb113, 0, none⟩) (Kd.V_mono HL112_1.out (fun k_ hk => (⟨hk, hk.2⟩ : _ ∧ k_ ≠ gb113))) (fun _ hk => hk.2) (.int .i64 ((rd_T55 l0_0 x14_1).f0))) (fun _ hk => hk.2) (.slice A112_1 ((rd_T55 l0_0 x14_1).f1).length c112_1)) (fun _ h_ => h_.1)))).2.2) | (with_reducible refine Kd.C_alloc ?_ _) | (with_reducible refine Kd.C_drewN ?_ _) | (with_reducible refine Kd.C_drew ?_))); (case side2 => exact HC112_1.out); rintro e w33 ⟨rfl, hb⟩; refine ⟨_, rfl, ?_⟩; have n0_ := zqj (Kd.V_below (by (with_reducible repeat (first | apply Kd.V_alloc | apply Kd.V_drewN | apply Kd.V_drew)); exact (Kd.V_mono (Kd.V_far (p := ⟨gb113, 1, none⟩) (Kd.V_far (p := ⟨gb113, 0, none⟩) (Kd.V_mono HO_12.out (fun k_ hk => (⟨hk, hk.2⟩ : _ ∧ k_ ≠ gb113))) (fun _ hk => hk.2) (.int .i64 ((rd_T55 l0_0 x14_1).f0))) (fun _ hk => hk.2) (.slice A112_1 ((rd_T55 l0_0 x14_1).f1).length c112_1)) (fun _ h_ => h_.1))) hb); have n1_ := zqj (Kd.V_below (by (with_reducible repeat (first | apply Kd.V_alloc | apply Kd.V_drewN | apply Kd.V_drew)); exact (Kd.V_mono (Kd.V_far (p := ⟨gb113, 1, none⟩) (Kd.V_far (p := ⟨gb113, 0, none⟩) (Kd.V_mono HO_110000.out (fun k_ hk => (⟨hk, hk.2⟩ : _ ∧ k_ ≠ gb113))) (fun _ hk => hk.2) (.int .i64 ((rd_T55 l0_0 x14_1).f0))) (fun _ hk => hk.2) (.slice A112_1 ((rd_T55 l0_0 x14_1).f1).length c112_1)) (fun _ h_ => h_.1))) hb); have n2_ := zqj (Kd.N_below (by (with_reducible repeat (first | apply Kd.N_alloc | apply Kd.N_drewN | apply Kd.N_drew)); exact (Kd.N_mono (Kd.N_far (p := ⟨gb113, 1, none⟩) (Kd.N_far (p := ⟨gb113, 0, none⟩) (Kd.N_mono HO_112000.out (fun k_ hk => (⟨hk, hk.2⟩ : _ ∧ k_ ≠ gb113))) (fun _ hk => hk.2) (.int .i64 ((rd_T55 l0_0 x14_1).f0))) (fun _ hk => hk.2) (.slice A112_1 ((rd_T55 l0_0 x14_1).f1).length c112_1)) (fun _ h_ => h_.1))) hb); have n3_ := zqj (Kd.V_below (by (with_reducible repeat (first | apply Kd.V_alloc | apply Kd.V_drewN | apply Kd.V_drew)); exact (Kd.V_mono (Kd.V_far (p := ⟨gb113, 1, none⟩) (Kd.V_far (p := ⟨gb113, 0, none⟩) (Kd.V_mono HL112_1.out (fun k_ hk => (⟨hk, hk.2⟩ : _ ∧ k_ ≠ gb113))) (fun _ hk => hk.2) (.int .i64 ((rd_T55 l0_0 x14_1).f0))) (fun _ hk => hk.2) (.slice A112_1 ((rd_T55 l0_0 x14_1).f1).length c112_1)) (fun _ h_ => h_.1))) hb); have n4_ := zqj (blk_below (g := gb109) (o := .cells #[.slice (some ad112) l0_0.length c0_0, .slice A0_1 l0_1.length c0_1, .int .i64 a0_2] 25 (0, 0)) (by (iterate 2 ((with_reducible repeat (first | refine zqa ?_ _ | refine zqb ?_ | refine zqc ?_ _)); refine blk_far ?_ NB109_113.out _)); (with_reducible repeat (first | refine zqa ?_ _ | refine zqb ?_ | refine zqc ?_ _)); exact BK109.out) hb); have n5_ := zqj (blk_below (g := gb110) (o := .cells #[.slice none 0 0, .int .i64 0] 34 (0, 0)) (by (iterate 2 ((with_reducible repeat (first | refine zqa ?_ _ | refine zqb ?_ | refine zqc ?_ _)); refine blk_far ?_ NB110_113.out _)); (with_reducible repeat (first | refine zqa ?_ _ | refine zqb ?_ | refine zqc ?_ _)); exact BK110.out) hb); have n6_ := zqj (blk_below (g := gb111) (o := .cells #[u112000, .int .i64 1] 34 (0, 0)) (by (iterate 2 ((with_reducible repeat (first | refine zqa ?_ _ | refine zqb ?_ | refine zqc ?_ _)); refine blk_far ?_ NB111_113.out _)); (with_reducible repeat (first | refine zqa ?_ _ | refine zqb ?_ | refine zqc ?_ _)); exact BK111.out) hb); have n7_ := zqj (Kd.C_below ((Kd.V_reads' (by (with_reducible repeat (first | apply Kd.V_alloc | apply Kd.V_drewN | apply Kd.V_drew)); exact (Kd.V_mono (Kd.V_far (p := ⟨gb113, 1, none⟩) (Kd.V_far (p := ⟨gb113, 0, none⟩) (Kd.V_mono HL112_1.out (fun k_ hk => (⟨hk, hk.2⟩ : _ ∧ k_ ≠ gb113))) (fun _ hk => hk.2) (.int .i64 ((rd_T55 l0_0 x14_1).f0))) (fun _ hk => hk.2) (.slice A112_1 ((rd_T55 l0_0 x14_1).f1).length c112_1)) (fun _ h_ => h_.1)))).2.2) hb); have n8_ := zqj (blk_below (g := gb113) (o := .cells #[.int .i64 ((rd_T55 l0_0 x14_1).f0), .slice A112_1 ((rd_T55 l0_0 x14_1).f1).length c112_1] 55 (0, 0)) (by (with_reducible repeat (first | refine zqa ?_ _ | refine zqb ?_ | refine zqc ?_ _)); refine blk_put (cs := #[.int .i64 ((rd_T55 l0_0 x14_1).f0), .slice none 0 0]) ?_ 1 _ rfl; (with_reducible repeat (first | refine zqa ?_ _ | refine zqb ?_ | refine zqc ?_ _)); refine blk_put (cs := #[.int .i64 0, .slice none 0 0]) ?_ 0 _ rfl; (with_reducible repeat (first | refine zqa ?_ _ | refine zqb ?_ | refine zqc ?_ _)); exact BK113.out) hb); have n9_ := zqj (below_step (zrd4 HB.out GE109.out GE110.out GE111.out GE113.out) hb); clear HO_12; clear HO_110000; clear HO_112000; clear HL112_1; clear BK109; clear BK110; clear BK111; clear HR112_1; clear BK113; clear HB; have HO_12 := n0_; have HO_110000 := n1_; have HO_112000 := n2_; have HL112_1 := n3_; have BK109 := n4_; have BK110 := n5_; have BK111 := n6_; have HR112_1 := n7_; have BK113 := n8_; have HB := n9_; clear n0_ n1_ n2_ n3_ n4_ n5_ n6_ n7_ n8_ n9_; (try clear hb); (try clear hb2); (try clear hk); (try clear hi); obtain ⟨hcz34_0, hcz34_1⟩ := zc2 BK113.out; obtain ⟨hfz34_0, hfz34_1⟩ := zf2 BK113.out; have p115 : 0 ≤ (t114 : Int) := zqh zrs; have q115 : t114 < (((rd_T55 l0_0 x14_1).f1).length : Int) := zqh zrs; obtain ⟨ad115, A115_6, c115_6, e115, hx115_0, hx115_1, hx115_2, hx115_3, hx115_4, hx115_5, hx115_6, hl115_6, hi115_6⟩ := at_T58 (by repeat (first | (with_reducible exact HR112_1.out) | (with_reducible refine Kd.C_alloc ?_ _) | (with_reducible refine Kd.C_drewN ?_ _) | (with_reducible refine Kd.C_drew ?_) | exact HR112_1.out | exact (Kd.V_reads' HL112_1.out).2.2)) t114 p115 q115; (try rw [← Nbq18.out] at hx115_1); cases e115; obtain ⟨ce115, hce115, hMe115, hcc115⟩ := Kd.V_get HL112_1.out z58 t114 p115 (by first | exact q115 | exact zqh zrs | (have e_ := (Kd.V_reads' HL112_1.out).1; omega)); obtain ⟨ua115_6, uc115_6, rfl, ul115_6, ge115_6⟩ := k58_openF hMe115; have hv115_6 := hcc115 6 _ rfl; rw [add_field _ _ 6 (by omega)] at hv115_6; replace hv115_6 := Option.some.inj (hv115_6.symm.trans hx115_6); injection hv115_6 with hva_ hvn_ hvc_; rw [hva_] at ge115_6; rw [hvc_] at ul115_6; have HL115_6 := zqj (show Kd.V k91 91 _ w.heap.size _ _ ((rd_T58 ((rd_T55 l0_0 x14_1).f1) t114).f2.f4) from Kd.V_mk ul115_6 ge115_6); clear hva_ hvn_ hvc_ ge115_6 ul115_6; clear hcc115 hce115; have HR115_6 := zqj hi115_6; have HC115_6 := zqj hl115_6; clear hi115_6 hl115_6; replace p115 := eq_true p115; replace q115 := eq_true q115))
           replace HO_12 := zqj (Kd.V_drew HO_12.out); replace HO_110000 := zqj (Kd.V_drew HO_110000.out); replace HO_112000 := zqj (Kd.N_drew HO_112000.out); replace HL112_1 := zqj (Kd.V_drew HL112_1.out); replace HL115_6 := zqj (Kd.V_drew HL115_6.out); replace BK109 := zqj (zqb BK109.out); replace BK110 := zqj (zqb BK110.out); replace BK111 := zqj (zqb BK111.out); replace BK113 := zqj (zqb BK113.out); replace HR112_1 := zqj (Kd.C_drew HR112_1.out); replace HR115_6 := zqj (Kd.C_drew HR115_6.out); replace HB := zqj (zqf HB.out)
           have p116 : 0 ≤ (t114 : Int) := zqh zrs
           have q116 : t114 < (((rd_T55 l0_0 x14_1).f1).length : Int) := zqh zrs
           obtain ⟨ad116, A116_6, c116_6, e116, hx116_0, hx116_1, hx116_2, hx116_3, hx116_4, hx116_5, hx116_6, hl116_6, hi116_6⟩ := at_T58 (by repeat (first | (with_reducible exact HR112_1.out) | (with_reducible refine Kd.C_alloc ?_ _) | (with_reducible refine Kd.C_drewN ?_ _) | (with_reducible refine Kd.C_drew ?_) | exact HR112_1.out | exact (Kd.V_reads' HL112_1.out).2.2)) t114 p116 q116
           (try rw [← Nbq18.out] at hx116_1)
           obtain rfl : ad115 = ad116 := (by injection e116)
           obtain ⟨ce116, hce116, hMe116, hcc116⟩ := Kd.V_get HL112_1.out z58 t114 p116 (by first | exact q116 | exact zqh zrs | (have e_ := (Kd.V_reads' HL112_1.out).1; omega))
           obtain ⟨ua116_6, uc116_6, rfl, ul116_6, ge116_6⟩ := k58_openF hMe116
           have hv116_6 := hcc116 6 _ rfl
           rw [add_field _ _ 6 (by omega)] at hv116_6
           replace hv116_6 := Option.some.inj (hv116_6.symm.trans hx116_6)
           injection hv116_6 with hva_ hvn_ hvc_
           rw [hva_] at ge116_6
           rw [hvc_] at ul116_6
           have HL116_6 := zqj (show Kd.V k91 91 _ w.heap.size _ _ ((rd_T58 ((rd_T55 l0_0 x14_1).f1) t114).f2.f4) from Kd.V_mk ul116_6 ge116_6)
           (clear hva_ hvn_ hvc_ ge116_6 ul116_6; clear hcc116 hce116)
           have HR116_6 := zqj hi116_6
           have HC116_6 := zqj hl116_6
           clear hi116_6 hl116_6
           replace p116 := eq_true p116
           replace q116 := eq_true q116
           refine start_ (n := 12) (S := fun w' => w'.cell? ⟨gb111, 0, none⟩ = some (u112000) ∧ w'.cell? ⟨gb111, 1, none⟩ = some (.int .i64 1) ∧ w'.cell? ⟨gb113, 0, none⟩ = some (.int .i64 ((rd_T55 l0_0 x14_1).f0)) ∧ w'.cell? ⟨gb113, 1, none⟩ = some (.slice (some ad115) ((rd_T55 l0_0 x14_1).f1).length c112_1) ∧ w'.cell? (ad115.add ((t114).toNat * 7)) = some (.int .i64 ((rd_T58 ((rd_T55 l0_0 x14_1).f1) t114).f0)) ∧ w'.cell? ⟨(ad115.add ((t114).toNat * 7)).block, (ad115.add ((t114).toNat * 7)).off + 1, none⟩ = some (.bool (false)) ∧ w'.cell? ⟨(ad115.add ((t114).toNat * 7)).block, (ad115.add ((t114).toNat * 7)).off + 2, none⟩ = some (.int .i64 ((rd_T58 ((rd_T55 l0_0 x14_1).f1) t114).f2.f0)) ∧ w'.cell? ⟨(ad115.add ((t114).toNat * 7)).block, (ad115.add ((t114).toNat * 7)).off + 3, none⟩ = some (.int .i64 ((rd_T58 ((rd_T55 l0_0 x14_1).f1) t114).f2.f1)) ∧ w'.cell? ⟨(ad115.add ((t114).toNat * 7)).block, (ad115.add ((t114).toNat * 7)).off + 4, none⟩ = some (.int .i64 ((rd_T58 ((rd_T55 l0_0 x14_1).f1) t114).f2.f2)) ∧ w'.cell? ⟨(ad115.add ((t114).toNat * 7)).block, (ad115.add ((t114).toNat * 7)).off + 5, none⟩ = some (.string ((rd_T58 ((rd_T55 l0_0 x14_1).f1) t114).f2.f3)) ∧ w'.cell? ⟨(ad115.add ((t114).toNat * 7)).block, (ad115.add ((t114).toNat * 7)).off + 6, none⟩ = some (.slice A116_6 ((rd_T58 ((rd_T55 l0_0 x14_1).f1) t114).f2.f4).length c116_6)) (ds := [9, 11]) #[false, false, false, false, false, false, false, false, false, false, false, false] (by kernel_rfl) rfl rfl ⟨(blk_cell BK111.out 0).trans rfl, (blk_cell BK111.out 1).trans rfl, (blk_cell BK113.out 0).trans rfl, (blk_cell BK113.out 1).trans rfl, hx116_0, hx116_1, hx116_2, hx116_3, hx116_4, hx116_5, hx116_6⟩ (fun hHeld => ?_); refine with_tabW store_View.tab7 store_View.bits7 (fun HT_ HW_ => ?_)
           generalize w33.drew = w35 at HO_12 HO_110000 HO_112000 HL112_1 HL115_6 BK109 BK110 BK111 BK113 HR112_1 HR115_6 HB HL116_6 HR116_6 hx116_0 hx116_1 hx116_2 hx116_3 hx116_4 hx116_5 hx116_6 hHeld ⊢
           refine zp 0 33 (zb 12 1) HT_.out ?_
           refine zp 2 35 (zb 12 5) HT_.out ?_
           refine zp 4 37 (zb 12 21) HT_.out ?_
           refine zt 1 34 (zb 12 23) HT_.out HW_.out hHeld ?_
           refine zt 3 36 (zb 12 31) HT_.out HW_.out hHeld ?_
           refine zp 5 38 (zb 12 63) HT_.out ?_
           refine zp 6 39 (zb 12 127) HT_.out ?_
           refine zt 7 40 (zb 12 255) HT_.out HW_.out hHeld ?_
           refine one_ (i := 8) (N := some 41) (zb 12 511) rfl rfl (one_of HT_.out (by kernel_rfl)) (by decide) (fun K hK => ?_)
           refine value_ (w1 := ?_) (v := ?_) (by rfl) rfl ?_ ?_
           rotate_left 2
           ·go_simp
            constructor
            ·rfl
            ·rfl
           refine hK.out _ _ ⟨(blk_cell (zqc BK111.out _) 0).trans rfl, (blk_cell (zqc BK111.out _) 1).trans rfl, (blk_cell (zqc BK113.out _) 0).trans rfl, (blk_cell (zqc BK113.out _) 1).trans rfl, (World.cell?_alloc_lt _ _ _ (World.block_lt_of_cell? _ _ (hHeld.2.2.2.2.1))).trans (hHeld.2.2.2.2.1), (World.cell?_alloc_lt _ _ _ (World.block_lt_of_cell? _ _ (hHeld.2.2.2.2.2.1))).trans (hHeld.2.2.2.2.2.1), (World.cell?_alloc_lt _ _ _ (World.block_lt_of_cell? _ _ (hHeld.2.2.2.2.2.2.1))).trans (hHeld.2.2.2.2.2.2.1), (World.cell?_alloc_lt _ _ _ (World.block_lt_of_cell? _ _ (hHeld.2.2.2.2.2.2.2.1))).trans (hHeld.2.2.2.2.2.2.2.1), (World.cell?_alloc_lt _ _ _ (World.block_lt_of_cell? _ _ (hHeld.2.2.2.2.2.2.2.2.1))).trans (hHeld.2.2.2.2.2.2.2.2.1), (World.cell?_alloc_lt _ _ _ (World.block_lt_of_cell? _ _ (hHeld.2.2.2.2.2.2.2.2.2.1))).trans (hHeld.2.2.2.2.2.2.2.2.2.1), (World.cell?_alloc_lt _ _ _ (World.block_lt_of_cell? _ _ (hHeld.2.2.2.2.2.2.2.2.2.2))).trans (hHeld.2.2.2.2.2.2.2.2.2.2)⟩ (fun hHeld => ?_)
           clear hK K
           refine norm_ (a' := ?_) ?_ ?_
           rotate_left
           ·show Act.put _ (some 41) _ = _
            simp only [Act.put, zqk, zql, zqm, i64_w, i32_w]
            rfl
           refine last_ (i := 9) (N := some 42) (zb 12 1023) rfl rfl (one_of HT_.out (by kernel_rfl)) (by decide) (fun K hK => ?_)
           refine Kd.N_append_step k38 (w0 := w) w.heap.size (by rfl) (.tmp 34) (.tmp 41) 32 38 (.agg #[(.int .i64 0), (.int .i64 0), (.int .i64 0), (.string ⟨#[]⟩), (.slice none 0 0)]) 64 rfl Try.underlying32 info38 rfl (by decide) (by omega) u112000 x112000_1 (⟨(rd_T58 ((rd_T55 l0_0 x14_1).f1) t114).f2.f0, (rd_T58 ((rd_T55 l0_0 x14_1).f1) t114).f2.f1, (rd_T58 ((rd_T55 l0_0 x14_1).f1) t114).f2.f2, (rd_T58 ((rd_T55 l0_0 x14_1).f1) t114).f2.f3, (rd_T58 ((rd_T55 l0_0 x14_1).f1) t114).f2.f4⟩ : S38) [.int .i64 ((rd_T58 ((rd_T55 l0_0 x14_1).f1) t114).f2.f0), .int .i64 ((rd_T58 ((rd_T55 l0_0 x14_1).f1) t114).f2.f1), .int .i64 ((rd_T58 ((rd_T55 l0_0 x14_1).f1) t114).f2.f2), .string ((rd_T58 ((rd_T55 l0_0 x14_1).f1) t114).f2.f3), .slice A116_6 ((rd_T58 ((rd_T55 l0_0 x14_1).f1) t114).f2.f4).length c116_6] (fun k_ => (P0_0_ k_ ∨ w.heap.size ≤ k_) ∧ k_ ≠ gb109 ∧ k_ ≠ gb110 ∧ k_ ≠ gb111 ∧ k_ ≠ gb113) (fun k_ => ((fun k_ => (P0_0_ k_ ∨ w.heap.size ≤ k_) ∧ k_ ≠ gb109 ∧ k_ ≠ gb110 ∧ k_ ≠ gb111 ∧ k_ ≠ gb113)) k_ ∧ some k_ ≠ (u112000 : Value).ownBlock) rfl rfl ?aP (fun _ hk => hk) ?aF ?aO ?aB ?aS ?aL ?_
           (case aP => exact (k38_mkF _ _ (⟨(rd_T58 ((rd_T55 l0_0 x14_1).f1) t114).f2.f0, (rd_T58 ((rd_T55 l0_0 x14_1).f1) t114).f2.f1, (rd_T58 ((rd_T55 l0_0 x14_1).f1) t114).f2.f2, (rd_T58 ((rd_T55 l0_0 x14_1).f1) t114).f2.f3, (rd_T58 ((rd_T55 l0_0 x14_1).f1) t114).f2.f4⟩ : S38) (Kd.V_reads' (Kd.V_mono (ok' := (fun k_ => ((fun k_ => (P0_0_ k_ ∨ w.heap.size ≤ k_) ∧ k_ ≠ gb109 ∧ k_ ≠ gb110 ∧ k_ ≠ gb111 ∧ k_ ≠ gb113)) k_ ∧ some k_ ≠ (u112000 : Value).ownBlock)) (HL116_6.out) (fun k_ hk => ⟨⟨hk.1.1, ⟨hk.1.2.2.1, ⟨hk.1.2.2.2.1, ⟨hk.1.2.2.2.2, hk.2⟩⟩⟩⟩, hk.1.2.1⟩))).2.1 (Kd.V_F (Kd.V_mono (ok' := (fun k_ => ((fun k_ => (P0_0_ k_ ∨ w.heap.size ≤ k_) ∧ k_ ≠ gb109 ∧ k_ ≠ gb110 ∧ k_ ≠ gb111 ∧ k_ ≠ gb113)) k_ ∧ some k_ ≠ (u112000 : Value).ownBlock)) (HL116_6.out) (fun k_ hk => ⟨⟨hk.1.1, ⟨hk.1.2.2.1, ⟨hk.1.2.2.2.1, ⟨hk.1.2.2.2.2, hk.2⟩⟩⟩⟩, hk.1.2.1⟩)))))
           (case aB => exact (zrd4 HB.out GE109.out GE110.out GE111.out GE113.out))
           (case aF => exact (fun k_ hk => ⟨(.inr (Nat.le_trans (below_size (zrd4 HB.out GE109.out GE110.out GE111.out GE113.out)) hk)), Kd.freshB (g := gb109) (o := .cells #[.slice (some ad112) l0_0.length c0_0, .slice A0_1 l0_1.length c0_1, .int .i64 a0_2] 25 (0, 0)) (zrb BK109.out) k_ hk, Kd.freshB (g := gb110) (o := .cells #[.slice none 0 0, .int .i64 0] 34 (0, 0)) (zrb BK110.out) k_ hk, Kd.freshB (g := gb111) (o := .cells #[u112000, .int .i64 1] 34 (0, 0)) (zrb BK111.out) k_ hk, Kd.freshB (g := gb113) (o := .cells #[.int .i64 ((rd_T55 l0_0 x14_1).f0), .slice (some ad115) ((rd_T55 l0_0 x14_1).f1).length c112_1] 55 (0, 0)) (zrb BK113.out) k_ hk⟩))
           (case aO => exact (by (with_reducible repeat (first | apply Kd.N_alloc | apply Kd.N_drewN | apply Kd.N_drew)); exact Kd.N_mono HO_112000.out (fun _ hk => ⟨hk.1.1, ⟨hk.1.2.1, ⟨hk.1.2.2.1, ⟨hk.1.2.2.2, hk.2⟩⟩⟩⟩)))
           (case aS => exact (below_size (zrd4 HB.out GE109.out GE110.out GE111.out GE113.out)))
           (case aL => have := LMc27.out; omega)
           intro v118 w36 ho hb hg hat
           rw [← Ny117.out] at ho
           have n0_ := zqj (Kd.V_afterv (ok := (fun k_ => (P0_0_ k_ ∨ w.heap.size ≤ k_) ∧ k_ ≠ gb109 ∧ k_ ≠ gb110 ∧ k_ ≠ gb111 ∧ k_ ≠ gb113)) (by (with_reducible repeat (first | apply Kd.V_alloc | apply Kd.V_drewN | apply Kd.V_drew)); exact Kd.V_mono HO_12.out (fun _ hk => ⟨⟨hk.1.1, ⟨hk.1.2.2.1, ⟨hk.1.2.2.2.1, ⟨hk.1.2.2.2.2, hk.2⟩⟩⟩⟩, hk.1.2.1⟩)) hg hat)
           have n1_ := zqj (Kd.V_afterv (ok := (fun k_ => (P0_0_ k_ ∨ w.heap.size ≤ k_) ∧ k_ ≠ gb109 ∧ k_ ≠ gb110 ∧ k_ ≠ gb111 ∧ k_ ≠ gb113)) (by (with_reducible repeat (first | apply Kd.V_alloc | apply Kd.V_drewN | apply Kd.V_drew)); exact Kd.V_mono HO_110000.out (fun _ hk => ⟨⟨hk.1.1, ⟨hk.1.2.2.1, ⟨hk.1.2.2.2.1, ⟨hk.1.2.2.2.2, hk.2⟩⟩⟩⟩, hk.1.2.1⟩)) hg hat)
           have n2_ := zqj (blk_grown (g := gb109) (o := .cells #[.slice (some ad112) l0_0.length c0_0, .slice A0_1 l0_1.length c0_1, .int .i64 a0_2] 25 (0, 0)) (zrb BK109.out) hg (Kd.N_ne HO_112000.out BK109.out (by decide)))
           have n3_ := zqj (blk_grown (g := gb110) (o := .cells #[.slice none 0 0, .int .i64 0] 34 (0, 0)) (zrb BK110.out) hg (Kd.N_ne HO_112000.out BK110.out (by decide)))
           have n4_ := zqj (blk_grown (g := gb111) (o := .cells #[u112000, .int .i64 1] 34 (0, 0)) (zrb BK111.out) hg (Kd.N_ne HO_112000.out BK111.out (by decide)))
           have n5_ := zqj (Kd.V_afterv (ok := (fun k_ => (P0_0_ k_ ∨ w.heap.size ≤ k_) ∧ k_ ≠ gb109 ∧ k_ ≠ gb110 ∧ k_ ≠ gb111 ∧ k_ ≠ gb113)) (by (with_reducible repeat (first | apply Kd.V_alloc | apply Kd.V_drewN | apply Kd.V_drew)); exact Kd.V_mono HL112_1.out (fun _ hk => ⟨⟨hk.1.1, ⟨hk.1.2.2.1, ⟨hk.1.2.2.2.1, ⟨hk.1.2.2.2.2, hk.2⟩⟩⟩⟩, hk.1.2.1⟩)) hg hat)
           have n6_ := zqj (blk_grown (g := gb113) (o := .cells #[.int .i64 ((rd_T55 l0_0 x14_1).f0), .slice (some ad115) ((rd_T55 l0_0 x14_1).f1).length c112_1] 55 (0, 0)) (zrb BK113.out) hg (Kd.N_ne HO_112000.out BK113.out (by decide)))
           have n7_ := zqj (Kd.V_afterv (ok := (fun k_ => (P0_0_ k_ ∨ w.heap.size ≤ k_) ∧ k_ ≠ gb109 ∧ k_ ≠ gb110 ∧ k_ ≠ gb111 ∧ k_ ≠ gb113)) (by (with_reducible repeat (first | apply Kd.V_alloc | apply Kd.V_drewN | apply Kd.V_drew)); exact Kd.V_mono HL115_6.out (fun _ hk => ⟨⟨hk.1.1, ⟨hk.1.2.2.1, ⟨hk.1.2.2.2.1, ⟨hk.1.2.2.2.2, hk.2⟩⟩⟩⟩, hk.1.2.1⟩)) hg hat)
           have n8_ := zqj (Kd.V_afterv (ok := (fun k_ => (P0_0_ k_ ∨ w.heap.size ≤ k_) ∧ k_ ≠ gb109 ∧ k_ ≠ gb110 ∧ k_ ≠ gb111 ∧ k_ ≠ gb113)) (by (with_reducible repeat (first | apply Kd.V_alloc | apply Kd.V_drewN | apply Kd.V_drew)); exact Kd.V_mono HL116_6.out (fun _ hk => ⟨⟨hk.1.1, ⟨hk.1.2.2.1, ⟨hk.1.2.2.2.1, ⟨hk.1.2.2.2.2, hk.2⟩⟩⟩⟩, hk.1.2.1⟩)) hg hat)
           have n9_ := zqj (hb)
           have n10_ := zqj (ho)
           (clear HO_12; clear HO_110000; clear BK109; clear BK110; clear BK111; clear HL112_1; clear BK113; clear HL115_6; clear HL116_6; clear HB; clear HO_112000; have HO_12 := n0_; have HO_110000 := n1_; have BK109 := n2_; have BK110 := n3_; have BK111 := n4_; have HL112_1 := n5_; have BK113 := n6_; have HL115_6 := n7_; have HL116_6 := n8_; have HB := n9_; have HO119 := n10_; clear n0_ n1_ n2_ n3_ n4_ n5_ n6_ n7_ n8_ n9_ n10_; clear ho hb hg hat)
           obtain ⟨Ao37, co37, eo37⟩ := Kd.N_slice HO119.out
           (first | subst eo37 | (injection eo37 with f1_ f2_ f3_; have f4_ := f1_.symm; have f5_ := f3_.symm; clear f1_ f2_ f3_; subst f4_; subst f5_))
           refine hK.out _ _ ?_
           clear hK K
           refine norm_ (a' := ?_) ?_ ?_
           rotate_left
           ·show Act.put _ (some 42) _ = _
            simp only [Act.put, zqk, zql, zqm, i64_w, i32_w]
            rfl
           refine zp 10 43 (zb 12 2047) HT_.out ?_
           refine last_ (i := 11) (N := none) (zb 12 4095) rfl rfl (one_of HT_.out (by kernel_rfl)) (by decide) (fun K hK => ?_)
           have hs38 : w36.cell? ⟨gb111, 0, none⟩ = some (u112000) := (blk_cell BK111.out 0).trans rfl
           have hfs38 := zqi BK111.out 0
           have hns38_0 := NB109_111.out
           have hns38_1 := NB110_111.out
           have hns38_3 := NB113_111.out
           have hms38_0 := NB111_109.out
           have hms38_1 := NB111_110.out
           have hms38_3 := NB111_113.out
           refine skip_ (w1 := ?_) (by rfl) rfl ?_ ?_
           rotate_left
           ·go_simp
            rfl
           refine hK.out _ _ ?_
           clear hK K
           refine done_ (done_of HT_.out (by kernel_rfl)) ?_
           try go_wp2
           go_roundg k1
           case measure => have := HK1.out; omega
           case rel => exact ⟨(wrap64 (x14_1 + 1)), (y117), (.slice Ao37 y117.length co37), zrt, H', ⟨by have := HK1.out; omega⟩, ⟨by (with_reducible repeat (first | apply Kd.V_alloc | apply Kd.V_drewN | apply Kd.V_drew)); exact Kd.V_mono (Kd.V_far (p := ⟨gb111, 0, none⟩) (Kd.V_mono HO_12.out (fun k_ hk => (⟨hk, hk.1.2.2.2.1⟩ : _ ∧ k_ ≠ gb111))) (fun _ hk => hk.2) (.slice Ao37 y117.length co37)) (fun _ hk => ⟨hk.1.1.1, ⟨hk.1.2, ⟨hk.1.1.2.1, ⟨hk.1.1.2.2.1, hk.1.1.2.2.2.1⟩⟩⟩⟩)⟩, ⟨by (with_reducible repeat (first | apply Kd.V_alloc | apply Kd.V_drewN | apply Kd.V_drew)); exact Kd.V_mono (Kd.V_far (p := ⟨gb111, 0, none⟩) (Kd.V_mono HO_110000.out (fun k_ hk => (⟨hk, hk.1.2.2.2.1⟩ : _ ∧ k_ ≠ gb111))) (fun _ hk => hk.2) (.slice Ao37 y117.length co37)) (fun _ hk => ⟨hk.1.1.1, ⟨hk.1.2, ⟨hk.1.1.2.1, ⟨hk.1.1.2.2.1, hk.1.1.2.2.2.1⟩⟩⟩⟩)⟩, ⟨by (with_reducible repeat (first | apply Kd.N_alloc | apply Kd.N_drewN | apply Kd.N_drew)); exact Kd.N_mono (Kd.N_far (p := ⟨gb111, 0, none⟩) (Kd.N_mono HO119.out (fun k_ hk => (⟨hk, hk.2.2.2.1⟩ : _ ∧ k_ ≠ gb111))) (fun _ hk => hk.2) (.slice Ao37 y117.length co37)) (fun _ hk => ⟨hk.1.1, ⟨hk.1.2.1, ⟨hk.1.2.2.1, hk.1.2.2.2.1⟩⟩⟩)⟩, ⟨by (with_reducible repeat (first | refine zqa ?_ _ | refine zqb ?_ | refine zqc ?_ _)); refine blk_far ?_ NB109_111.out _; (with_reducible repeat (first | refine zqa ?_ _ | refine zqb ?_ | refine zqc ?_ _)); exact BK109.out⟩, ⟨by (with_reducible repeat (first | refine zqa ?_ _ | refine zqb ?_ | refine zqc ?_ _)); refine blk_far ?_ NB110_111.out _; (with_reducible repeat (first | refine zqa ?_ _ | refine zqb ?_ | refine zqc ?_ _)); exact BK110.out⟩, ⟨by (with_reducible repeat (first | refine zqa ?_ _ | refine zqb ?_ | refine zqc ?_ _)); refine blk_put (cs := #[u112000, .int .i64 1]) ?_ 0 _ rfl; (with_reducible repeat (first | refine zqa ?_ _ | refine zqb ?_ | refine zqc ?_ _)); exact BK111.out⟩, ⟨by repeat (first | (with_reducible first | exact HB.out | apply zqg | apply zqe | apply zqf | refine zqd ?_ GE109.out | refine zqd ?_ GE110.out | refine zqd ?_ GE111.out | refine zqd ?_ GE113.out) | exact HB.out)⟩⟩
          ·rw [if_neg c27] at H
           exact absurd H (by simp)
        ·rw [if_neg c17] at H
         exact absurd H (by simp)
       ·rw [if_neg c16] at H
        exact absurd H (by simp)
      ·rw [if_neg c15] at H
       have c15b0 : decide (0 ≤ t114) = false := decide_eq_false c15
       clear c15
       have H' := zqj H
       clear H
       have p112 : 0 ≤ (x14_1 : Int) := zqh zrs
       have q112 : x14_1 < (l0_0.length : Int) := zqh zrs
       obtain ⟨ad112, A112_1, c112_1, e112, hx112_0, hx112_1, hl112_1, hi112_1⟩ := at_T55 (Kd.V_reads' HO_12.out).2.2 x14_1 p112 q112
       cases e112
       obtain ⟨ce112, hce112, hMe112, hcc112⟩ := Kd.V_get HO_12.out z55 x14_1 p112 (by first | exact q112 | exact zqh zrs | (have e_ := (Kd.V_reads' HO_12.out).1; omega))
       obtain ⟨ua112_1, uc112_1, rfl, ul112_1, ge112_1⟩ := k55_openF hMe112
       have hv112_1 := hcc112 1 _ rfl
       rw [add_field _ _ 1 (by omega)] at hv112_1
       replace hv112_1 := Option.some.inj (hv112_1.symm.trans hx112_1)
       injection hv112_1 with hva_ hvn_ hvc_
       rw [hva_] at ge112_1
       rw [hvc_] at ul112_1
       have HL112_1 := zqj (show Kd.V k58 58 _ w.heap.size _ _ ((rd_T55 l0_0 x14_1).f1) from Kd.V_mk ul112_1 ge112_1)
       (clear hva_ hvn_ hvc_ ge112_1 ul112_1; clear hcc112 hce112)
       have HR112_1 := zqj hi112_1
       have HC112_1 := zqj hl112_1
       clear hi112_1 hl112_1
       replace p112 := eq_true p112
       replace q112 := eq_true q112
       go_wp2_with (first | ((with_reducible refine gate_dst (N := 7) rfl ?_); refine box_event ?hg (N := 7) ?hd (cs := #[.int .i64 0, .slice none 0 0]) (t := 55) ?hr ?_; (case hd => rfl); (case hg => rfl); (case hr => exact zrr); intro gb113 hg w39 hbox hb; have n0_ := zqj (Kd.V_below (Kd.V_elderB (zrV HO_12.out) gb113 (Nat.le_of_eq hg.symm)) hb); have n1_ := zqj (Kd.V_below (Kd.V_elderB (zrV HO_110000.out) gb113 (Nat.le_of_eq hg.symm)) hb); have n2_ := zqj (Kd.N_below (Kd.N_elderB (zrN HO_112000.out) gb113 (Nat.le_of_eq hg.symm)) hb); have n3_ := zqj (Kd.V_below (Kd.V_elderB (zrV HL112_1.out) gb113 (Nat.le_of_eq hg.symm)) hb); have n4_ := zqj (blk_below (g := gb109) (o := .cells #[.slice (some ad112) l0_0.length c0_0, .slice A0_1 l0_1.length c0_1, .int .i64 a0_2] 25 (0, 0)) (zrb BK109.out) hb); have n5_ := zqj (blk_below (g := gb110) (o := .cells #[.slice none 0 0, .int .i64 0] 34 (0, 0)) (zrb BK110.out) hb); have n6_ := zqj (blk_below (g := gb111) (o := .cells #[u112000, .int .i64 1] 34 (0, 0)) (zrb BK111.out) hb); have n7_ := zqj (Kd.C_below (by repeat (first | (with_reducible exact HR112_1.out) | (with_reducible refine Kd.C_alloc ?_ _) | (with_reducible refine Kd.C_drewN ?_ _) | (with_reducible refine Kd.C_drew ?_) | exact HR112_1.out | exact (Kd.V_reads' HL112_1.out).2.2)) hb); have n8_ := zqj (below_step (zrd3 HB.out GE109.out GE110.out GE111.out) hb); have n9_ := zqj (hbox); have n10_ := zqj ((by rw [hg]; exact (below_size (zrd3 HB.out GE109.out GE110.out GE111.out)) : w.heap.size ≤ gb113)); have n11_ := zqj ((by rw [hg]; exact (below_size (zrd3 HB.out GE109.out GE110.out GE111.out)) : w.heap.size ≤ gb113)); have n12_ := zqj ((by rw [hg]; exact Nat.ne_of_lt (blk_lt (g := gb109) (o := .cells #[.slice (some ad112) l0_0.length c0_0, .slice A0_1 l0_1.length c0_1, .int .i64 a0_2] 25 (0, 0)) (zrb BK109.out)) : gb109 ≠ gb113)); have n13_ := zqj ((by rw [hg]; exact Nat.ne_of_gt (blk_lt (g := gb109) (o := .cells #[.slice (some ad112) l0_0.length c0_0, .slice A0_1 l0_1.length c0_1, .int .i64 a0_2] 25 (0, 0)) (zrb BK109.out)) : gb113 ≠ gb109)); have n14_ := zqj ((by rw [hg]; exact Nat.ne_of_lt (blk_lt (g := gb110) (o := .cells #[.slice none 0 0, .int .i64 0] 34 (0, 0)) (zrb BK110.out)) : gb110 ≠ gb113)); have n15_ := zqj ((by rw [hg]; exact Nat.ne_of_gt (blk_lt (g := gb110) (o := .cells #[.slice none 0 0, .int .i64 0] 34 (0, 0)) (zrb BK110.out)) : gb113 ≠ gb110)); have n16_ := zqj ((by rw [hg]; exact Nat.ne_of_lt (blk_lt (g := gb111) (o := .cells #[u112000, .int .i64 1] 34 (0, 0)) (zrb BK111.out)) : gb111 ≠ gb113)); have n17_ := zqj ((by rw [hg]; exact Nat.ne_of_gt (blk_lt (g := gb111) (o := .cells #[u112000, .int .i64 1] 34 (0, 0)) (zrb BK111.out)) : gb113 ≠ gb111)); clear HO_12; clear HO_110000; clear HO_112000; clear HL112_1; clear BK109; clear BK110; clear BK111; clear HR112_1; clear HB; have HO_12 := n0_; have HO_110000 := n1_; have HO_112000 := n2_; have HL112_1 := n3_; have BK109 := n4_; have BK110 := n5_; have BK111 := n6_; have HR112_1 := n7_; have HB := n8_; have BK113 := n9_; have GW113 := n10_; have GE113 := n11_; have NB109_113 := n12_; have NB113_109 := n13_; have NB110_113 := n14_; have NB113_110 := n15_; have NB111_113 := n16_; have NB113_111 := n17_; clear n0_ n1_ n2_ n3_ n4_ n5_ n6_ n7_ n8_ n9_ n10_ n11_ n12_ n13_ n14_ n15_ n16_ n17_; clear hb hbox hg; have hnb40 := NB113_109.out; have hnc40 := NB109_113.out; have hnb41 := NB113_110.out; have hnc41 := NB110_113.out; have hnb42 := NB113_111.out; have hnc42 := NB111_113.out; obtain ⟨hcz43_0, hcz43_1⟩ := zc2 BK113.out; obtain ⟨hfz43_0, hfz43_1⟩ := zf2 BK113.out) | ((with_reducible refine gate_callee (f := 31) rfl ?_); refine goesL_ (some 21) rfl rfl Try.func31 (by kernel_rfl) rfl #[.slice A112_1 ((rd_T55 l0_0 x14_1).f1).length c112_1, .int .i64 a1, .func (.func 32) #[] #[]] rfl zra ?_; (with_reducible refine (api_Ver.calls k1 _ _ ((rd_T55 l0_0 x14_1).f1) a1 () t114 _ ?side1 ?side2 A14.out).mono ?_); (case side1 => repeat (first | exact ((Kd.V_reads' (by (with_reducible repeat (first | apply Kd.V_alloc | apply Kd.V_drewN | apply Kd.V_drew)); exact (Kd.V_mono (Kd.V_far (p := ⟨gb113, 1, none⟩) (Kd.V_far (p := ⟨gb113, 0, none⟩) (Kd.V_mono HL112_1.out (fun k_ hk => (⟨hk, hk.2⟩ : _ ∧ k_ ≠ gb113))) (fun _ hk => hk.2) (.int .i64 ((rd_T55 l0_0 x14_1).f0))) (fun _ hk => hk.2) (.slice A112_1 ((rd_T55 l0_0 x14_1).f1).length c112_1)) (fun _ h_ => h_.1)))).2.2) | (with_reducible refine Kd.C_alloc ?_ _) | (with_reducible refine Kd.C_drewN ?_ _) | (with_reducible refine Kd.C_drew ?_))); (case side2 => exact HC112_1.out); rintro e w44 ⟨rfl, hb⟩; refine ⟨_, rfl, ?_⟩; have n0_ := zqj (Kd.V_below (by (with_reducible repeat (first | apply Kd.V_alloc | apply Kd.V_drewN | apply Kd.V_drew)); exact (Kd.V_mono (Kd.V_far (p := ⟨gb113, 1, none⟩) (Kd.V_far (p := ⟨gb113, 0, none⟩) (Kd.V_mono HO_12.out (fun k_ hk => (⟨hk, hk.2⟩ : _ ∧ k_ ≠ gb113))) (fun _ hk => hk.2) (.int .i64 ((rd_T55 l0_0 x14_1).f0))) (fun _ hk => hk.2) (.slice A112_1 ((rd_T55 l0_0 x14_1).f1).length c112_1)) (fun _ h_ => h_.1))) hb); have n1_ := zqj (Kd.V_below (by (with_reducible repeat (first | apply Kd.V_alloc | apply Kd.V_drewN | apply Kd.V_drew)); exact (Kd.V_mono (Kd.V_far (p := ⟨gb113, 1, none⟩) (Kd.V_far (p := ⟨gb113, 0, none⟩) (Kd.V_mono HO_110000.out (fun k_ hk => (⟨hk, hk.2⟩ : _ ∧ k_ ≠ gb113))) (fun _ hk => hk.2) (.int .i64 ((rd_T55 l0_0 x14_1).f0))) (fun _ hk => hk.2) (.slice A112_1 ((rd_T55 l0_0 x14_1).f1).length c112_1)) (fun _ h_ => h_.1))) hb); have n2_ := zqj (Kd.N_below (by (with_reducible repeat (first | apply Kd.N_alloc | apply Kd.N_drewN | apply Kd.N_drew)); exact (Kd.N_mono (Kd.N_far (p := ⟨gb113, 1, none⟩) (Kd.N_far (p := ⟨gb113, 0, none⟩) (Kd.N_mono HO_112000.out (fun k_ hk => (⟨hk, hk.2⟩ : _ ∧ k_ ≠ gb113))) (fun _ hk => hk.2) (.int .i64 ((rd_T55 l0_0 x14_1).f0))) (fun _ hk => hk.2) (.slice A112_1 ((rd_T55 l0_0 x14_1).f1).length c112_1)) (fun _ h_ => h_.1))) hb); have n3_ := zqj (Kd.V_below (by (with_reducible repeat (first | apply Kd.V_alloc | apply Kd.V_drewN | apply Kd.V_drew)); exact (Kd.V_mono (Kd.V_far (p := ⟨gb113, 1, none⟩) (Kd.V_far (p := ⟨gb113, 0, none⟩) (Kd.V_mono HL112_1.out (fun k_ hk => (⟨hk, hk.2⟩ : _ ∧ k_ ≠ gb113))) (fun _ hk => hk.2) (.int .i64 ((rd_T55 l0_0 x14_1).f0))) (fun _ hk => hk.2) (.slice A112_1 ((rd_T55 l0_0 x14_1).f1).length c112_1)) (fun _ h_ => h_.1))) hb); have n4_ := zqj (blk_below (g := gb109) (o := .cells #[.slice (some ad112) l0_0.length c0_0, .slice A0_1 l0_1.length c0_1, .int .i64 a0_2] 25 (0, 0)) (by (iterate 2 ((with_reducible repeat (first | refine zqa ?_ _ | refine zqb ?_ | refine zqc ?_ _)); refine blk_far ?_ NB109_113.out _)); (with_reducible repeat (first | refine zqa ?_ _ | refine zqb ?_ | refine zqc ?_ _)); exact BK109.out) hb); have n5_ := zqj (blk_below (g := gb110) (o := .cells #[.slice none 0 0, .int .i64 0] 34 (0, 0)) (by (iterate 2 ((with_reducible repeat (first | refine zqa ?_ _ | refine zqb ?_ | refine zqc ?_ _)); refine blk_far ?_ NB110_113.out _)); (with_reducible repeat (first | refine zqa ?_ _ | refine zqb ?_ | refine zqc ?_ _)); exact BK110.out) hb); have n6_ := zqj (blk_below (g := gb111) (o := .cells #[u112000, .int .i64 1] 34 (0, 0)) (by (iterate 2 ((with_reducible repeat (first | refine zqa ?_ _ | refine zqb ?_ | refine zqc ?_ _)); refine blk_far ?_ NB111_113.out _)); (with_reducible repeat (first | refine zqa ?_ _ | refine zqb ?_ | refine zqc ?_ _)); exact BK111.out) hb); have n7_ := zqj (Kd.C_below ((Kd.V_reads' (by (with_reducible repeat (first | apply Kd.V_alloc | apply Kd.V_drewN | apply Kd.V_drew)); exact (Kd.V_mono (Kd.V_far (p := ⟨gb113, 1, none⟩) (Kd.V_far (p := ⟨gb113, 0, none⟩) (Kd.V_mono HL112_1.out (fun k_ hk => (⟨hk, hk.2⟩ : _ ∧ k_ ≠ gb113))) (fun _ hk => hk.2) (.int .i64 ((rd_T55 l0_0 x14_1).f0))) (fun _ hk => hk.2) (.slice A112_1 ((rd_T55 l0_0 x14_1).f1).length c112_1)) (fun _ h_ => h_.1)))).2.2) hb); have n8_ := zqj (blk_below (g := gb113) (o := .cells #[.int .i64 ((rd_T55 l0_0 x14_1).f0), .slice A112_1 ((rd_T55 l0_0 x14_1).f1).length c112_1] 55 (0, 0)) (by (with_reducible repeat (first | refine zqa ?_ _ | refine zqb ?_ | refine zqc ?_ _)); refine blk_put (cs := #[.int .i64 ((rd_T55 l0_0 x14_1).f0), .slice none 0 0]) ?_ 1 _ rfl; (with_reducible repeat (first | refine zqa ?_ _ | refine zqb ?_ | refine zqc ?_ _)); refine blk_put (cs := #[.int .i64 0, .slice none 0 0]) ?_ 0 _ rfl; (with_reducible repeat (first | refine zqa ?_ _ | refine zqb ?_ | refine zqc ?_ _)); exact BK113.out) hb); have n9_ := zqj (below_step (zrd4 HB.out GE109.out GE110.out GE111.out GE113.out) hb); clear HO_12; clear HO_110000; clear HO_112000; clear HL112_1; clear BK109; clear BK110; clear BK111; clear HR112_1; clear BK113; clear HB; have HO_12 := n0_; have HO_110000 := n1_; have HO_112000 := n2_; have HL112_1 := n3_; have BK109 := n4_; have BK110 := n5_; have BK111 := n6_; have HR112_1 := n7_; have BK113 := n8_; have HB := n9_; clear n0_ n1_ n2_ n3_ n4_ n5_ n6_ n7_ n8_ n9_; (try clear hb); (try clear hb2); (try clear hk); (try clear hi)))
       go_roundg k1
       case measure => have := HK1.out; omega
       case rel => exact ⟨(wrap64 (x14_1 + 1)), (x112000_1), (u112000), zrt, H', ⟨by have := HK1.out; omega⟩, ⟨by (with_reducible repeat (first | apply Kd.V_alloc | apply Kd.V_drewN | apply Kd.V_drew)); exact Kd.V_mono HO_12.out (fun _ hk => ⟨hk.1.1, ⟨hk.1.2.1, ⟨hk.1.2.2.1, ⟨hk.1.2.2.2.1, hk.1.2.2.2.2⟩⟩⟩⟩)⟩, ⟨by (with_reducible repeat (first | apply Kd.V_alloc | apply Kd.V_drewN | apply Kd.V_drew)); exact Kd.V_mono HO_110000.out (fun _ hk => ⟨hk.1.1, ⟨hk.1.2.1, ⟨hk.1.2.2.1, ⟨hk.1.2.2.2.1, hk.1.2.2.2.2⟩⟩⟩⟩)⟩, ⟨by (with_reducible repeat (first | apply Kd.N_alloc | apply Kd.N_drewN | apply Kd.N_drew)); exact Kd.N_mono HO_112000.out (fun _ hk => ⟨hk.1.1, ⟨hk.1.2.1, ⟨hk.1.2.2.1, hk.1.2.2.2⟩⟩⟩)⟩, ⟨by (with_reducible repeat (first | refine zqa ?_ _ | refine zqb ?_ | refine zqc ?_ _)); exact BK109.out⟩, ⟨by (with_reducible repeat (first | refine zqa ?_ _ | refine zqb ?_ | refine zqc ?_ _)); exact BK110.out⟩, ⟨by (with_reducible repeat (first | refine zqa ?_ _ | refine zqb ?_ | refine zqc ?_ _)); exact BK111.out⟩, ⟨by repeat (first | (with_reducible first | exact HB.out | apply zqg | apply zqe | apply zqf | refine zqd ?_ GE109.out | refine zqd ?_ GE110.out | refine zqd ?_ GE111.out | refine zqd ?_ GE113.out) | exact HB.out)⟩⟩
     ·rw [if_neg c13] at H
      exact absurd H (by simp)
    ·rw [if_neg c12] at H
     exact absurd H (by simp)
   ·rw [if_neg c11] at H
    have c11b0 : decide (x14_1 < (l0_0.length : Int)) = false := decide_eq_false c11
    clear c11
    replace H := zqn H
    obtain ⟨t120, A450, H⟩ := H
    replace H : (if t120 ≥ 0 then (if 0 ≤ t120 then (if t120 < (l0_1.length : Int) then (some (x112000_1, (rd_T61 l0_1 t120).f1)) else (none)) else (none)) else (some (x112000_1, 1))) = some (r1, r2) := H
    have A45 := zqj A450
    clear A450
    by_cases c46 : t120 ≥ 0
    ·rw [if_pos c46] at H
     have c46b0 : decide (0 ≤ t120) = true := decide_eq_true c46
     clear c46
     by_cases c47 : 0 ≤ t120
     ·rw [if_pos c47] at H
      have c47b0 : decide (0 ≤ t120) = true := decide_eq_true c47
      clear c47
      by_cases c48 : t120 < (l0_1.length : Int)
      ·rw [if_pos c48] at H
       have c48b0 : decide (t120 < (l0_1.length : Int)) = true := decide_eq_true c48
       clear c48
       simp only [Option.some.injEq, Prod.mk.injEq] at H
       obtain ⟨rfl, rfl⟩ := H
       have hnb49 := NB109_110.out
       have hnc49 := NB110_109.out
       have hnb50 := NB109_111.out
       have hnc50 := NB111_109.out
       obtain ⟨hcz51_0, hcz51_1, hcz51_2⟩ := zc3 BK109.out
       (obtain ⟨hfz51_0, hfz51_1, hfz51_2⟩ := zf3 BK109.out)
       go_wp2_with (first | ((with_reducible refine gate_callee (f := 33) rfl ?_); refine goesL_ (some 48) rfl rfl Try.func33 (by kernel_rfl) rfl #[.slice A0_1 l0_1.length c0_1, .int .i64 a1, .func (.func 34) #[] #[]] rfl zra ?_; (with_reducible refine (api_Count.calls k1 _ _ l0_1 a1 () t120 _ ?side1 ?side2 A45.out).mono ?_); (case side1 => exact zrc (Kd.C_below HR0_1.out HB.out)); (case side2 => exact HC0_1.out); rintro e w52 ⟨rfl, hb⟩; refine ⟨_, rfl, ?_⟩; replace HO_12 := zqj (Kd.V_below (zrV HO_12.out) hb); replace HO_110000 := zqj (Kd.V_below (zrV HO_110000.out) hb); replace HO_112000 := zqj (Kd.N_below (zrN HO_112000.out) hb); replace BK109 := zqj (blk_below (g := gb109) (o := .cells #[.slice A0_0 l0_0.length c0_0, .slice A0_1 l0_1.length c0_1, .int .i64 a0_2] 25 (0, 0)) (zrb BK109.out) hb); replace BK110 := zqj (blk_below (g := gb110) (o := .cells #[.slice none 0 0, .int .i64 0] 34 (0, 0)) (zrb BK110.out) hb); replace BK111 := zqj (blk_below (g := gb111) (o := .cells #[u112000, .int .i64 1] 34 (0, 0)) (zrb BK111.out) hb); replace HB := zqj (below_step (zrd3 HB.out GE109.out GE110.out GE111.out) hb); (try clear hb); (try clear hb2); (try clear hk); (try clear hi); obtain ⟨hcz53_0, hcz53_1, hcz53_2⟩ := zc3 BK109.out; obtain ⟨hfz53_0, hfz53_1, hfz53_2⟩ := zf3 BK109.out; have p121 : 0 ≤ (t120 : Int) := zqh zrs; have q121 : t120 < (l0_1.length : Int) := zqh zrs; obtain ⟨ad121, e121, hx121_0, hx121_1⟩ := at_T61 HR0_1.out t120 p121 q121; cases e121; replace hx121_0 := zx HB.out hx121_0; replace hx121_1 := zx HB.out hx121_1; replace p121 := eq_true p121; replace q121 := eq_true q121; have hnb54 := NB111_110.out; have hnc54 := NB110_111.out; obtain ⟨hcz55_0, hcz55_1⟩ := zc2 BK111.out; obtain ⟨hfz55_0, hfz55_1⟩ := zf2 BK111.out; obtain ⟨Ao56, co56, eo56⟩ := Kd.N_slice HO_112000.out; subst eo56; obtain ⟨hcz57_0, hcz57_1⟩ := zc2 BK110.out; obtain ⟨hfz57_0, hfz57_1⟩ := zf2 BK110.out))
       refine bodyPost_ret (results_cell_row rfl _ _ gb110 34 #[.slice Ao56 x112000_1.length co56, .int .i64 ((rd_T61 l0_1 t120).f1)] (0, 0) _ rfl (by (with_reducible repeat (first | refine zqa ?_ _ | refine zqb ?_ | refine zqc ?_ _)); refine blk_put (cs := #[.slice Ao56 x112000_1.length co56, .int .i64 0]) ?_ 1 _ rfl; (with_reducible repeat (first | refine zqa ?_ _ | refine zqb ?_ | refine zqc ?_ _)); refine blk_put (cs := #[.slice none 0 0, .int .i64 0]) ?_ 0 _ rfl; (with_reducible repeat (first | refine zqa ?_ _ | refine zqb ?_ | refine zqc ?_ _)); refine blk_far ?_ NB110_111.out _; (with_reducible repeat (first | refine zqa ?_ _ | refine zqb ?_ | refine zqc ?_ _)); exact BK110.out) Try.underlying34 rfl (by kernel_rfl)) rfl ?_
       exact ⟨_, zru, by (with_reducible repeat (first | apply Kd.N_alloc | apply Kd.N_drewN | apply Kd.N_drew)); exact Kd.N_mono (Kd.N_far (p := ⟨gb110, 1, none⟩) (Kd.N_far (p := ⟨gb110, 0, none⟩) (Kd.N_far (p := ⟨gb111, 1, none⟩) (Kd.N_mono (Kd.N_mono HO_112000.out (fun k_ hk => (⟨hk, hk.2.2.2⟩ : _ ∧ k_ ≠ gb111))) (fun k_ hk => (⟨hk, hk.1.2.2.1⟩ : _ ∧ k_ ≠ gb110))) (fun _ hk => hk.1.2) (.int .i64 ((rd_T61 l0_1 t120).f1))) (fun _ hk => hk.2) (.slice Ao56 x112000_1.length co56)) (fun _ hk => hk.2) (.int .i64 ((rd_T61 l0_1 t120).f1))) (fun _ hk => hk.1.1.1), by repeat (first | (with_reducible first | exact HB.out | apply zqg | apply zqe | apply zqf | refine zqd ?_ GE109.out | refine zqd ?_ GE110.out | refine zqd ?_ GE111.out) | exact HB.out)⟩
      ·rw [if_neg c48] at H
       exact absurd H (by simp)
     ·rw [if_neg c47] at H
      exact absurd H (by simp)
    ·rw [if_neg c46] at H
     have c46b0 : decide (0 ≤ t120) = false := decide_eq_false c46
     clear c46
     simp only [Option.some.injEq, Prod.mk.injEq] at H
     obtain ⟨rfl, rfl⟩ := H
     have hnb58 := NB109_110.out
     have hnc58 := NB110_109.out
     have hnb59 := NB109_111.out
     have hnc59 := NB111_109.out
     obtain ⟨hcz60_0, hcz60_1, hcz60_2⟩ := zc3 BK109.out
     (obtain ⟨hfz60_0, hfz60_1, hfz60_2⟩ := zf3 BK109.out)
     go_wp2_with (first | ((with_reducible refine gate_callee (f := 33) rfl ?_); refine goesL_ (some 48) rfl rfl Try.func33 (by kernel_rfl) rfl #[.slice A0_1 l0_1.length c0_1, .int .i64 a1, .func (.func 34) #[] #[]] rfl zra ?_; (with_reducible refine (api_Count.calls k1 _ _ l0_1 a1 () t120 _ ?side1 ?side2 A45.out).mono ?_); (case side1 => exact zrc (Kd.C_below HR0_1.out HB.out)); (case side2 => exact HC0_1.out); rintro e w61 ⟨rfl, hb⟩; refine ⟨_, rfl, ?_⟩; replace HO_12 := zqj (Kd.V_below (zrV HO_12.out) hb); replace HO_110000 := zqj (Kd.V_below (zrV HO_110000.out) hb); replace HO_112000 := zqj (Kd.N_below (zrN HO_112000.out) hb); replace BK109 := zqj (blk_below (g := gb109) (o := .cells #[.slice A0_0 l0_0.length c0_0, .slice A0_1 l0_1.length c0_1, .int .i64 a0_2] 25 (0, 0)) (zrb BK109.out) hb); replace BK110 := zqj (blk_below (g := gb110) (o := .cells #[.slice none 0 0, .int .i64 0] 34 (0, 0)) (zrb BK110.out) hb); replace BK111 := zqj (blk_below (g := gb111) (o := .cells #[u112000, .int .i64 1] 34 (0, 0)) (zrb BK111.out) hb); replace HB := zqj (below_step (zrd3 HB.out GE109.out GE110.out GE111.out) hb); (try clear hb); (try clear hb2); (try clear hk); (try clear hi); have hnb62 := NB111_110.out; have hnc62 := NB110_111.out; obtain ⟨hcz63_0, hcz63_1⟩ := zc2 BK111.out; obtain ⟨hfz63_0, hfz63_1⟩ := zf2 BK111.out; obtain ⟨Ao64, co64, eo64⟩ := Kd.N_slice HO_112000.out; subst eo64; obtain ⟨hcz65_0, hcz65_1⟩ := zc2 BK110.out; obtain ⟨hfz65_0, hfz65_1⟩ := zf2 BK110.out))
     refine bodyPost_ret (results_cell_row rfl _ _ gb110 34 #[.slice Ao64 x112000_1.length co64, .int .i64 1] (0, 0) _ rfl (by (with_reducible repeat (first | refine zqa ?_ _ | refine zqb ?_ | refine zqc ?_ _)); refine blk_put (cs := #[.slice Ao64 x112000_1.length co64, .int .i64 0]) ?_ 1 _ rfl; (with_reducible repeat (first | refine zqa ?_ _ | refine zqb ?_ | refine zqc ?_ _)); refine blk_put (cs := #[.slice none 0 0, .int .i64 0]) ?_ 0 _ rfl; (with_reducible repeat (first | refine zqa ?_ _ | refine zqb ?_ | refine zqc ?_ _)); exact BK110.out) Try.underlying34 rfl (by kernel_rfl)) rfl ?_
     exact ⟨_, zru, by (with_reducible repeat (first | apply Kd.N_alloc | apply Kd.N_drewN | apply Kd.N_drew)); exact Kd.N_mono (Kd.N_far (p := ⟨gb110, 1, none⟩) (Kd.N_far (p := ⟨gb110, 0, none⟩) (Kd.N_mono HO_112000.out (fun k_ hk => (⟨hk, hk.2.2.1⟩ : _ ∧ k_ ≠ gb110))) (fun _ hk => hk.2) (.slice Ao64 x112000_1.length co64)) (fun _ hk => hk.2) (.int .i64 1)) (fun _ hk => hk.1.1), by repeat (first | (with_reducible first | exact HB.out | apply zqg | apply zqe | apply zqf | refine zqd ?_ GE109.out | refine zqd ?_ GE110.out | refine zqd ?_ GE111.out) | exact HB.out)⟩
end Go.Proofs.Ytdkgkiemndlneaa.Q
end
