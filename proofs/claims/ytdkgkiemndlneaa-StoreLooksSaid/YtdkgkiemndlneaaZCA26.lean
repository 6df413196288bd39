import Derived.Test.YtdkgkiemndlneaaZCA25
import Derived.Test.YtdkgkiemndlneaaZCA23
import Derived.Test.YtdkgkiemndlneaaZCAA
set_option linter.unusedVariables false
set_option linter.unusedSimpArgs false
section
namespace Go.Proofs.Ytdkgkiemndlneaa.Q
open Go.RowKit Go.Proofs.YtdkgkiemndlneaaW.PrintWords Go.Proofs.YtdkgkiemndlneaaW.PrintLast Go.Proofs.YtdkgkiemndlneaaW.PrintMore
attribute [local go_sem] max2_int min2_int max_two min_two max_three min_three max_four min_four   -- for this text's walks alone
open Go.Proofs.Ytdkgkiemndlneaa.X
attribute [local go_sem high] Go.Proofs.Ytdkgkiemndlneaa.px_xor_u8 Go.Proofs.Ytdkgkiemndlneaa.px_xor_u16 Go.Proofs.Ytdkgkiemndlneaa.px_xor_u32 Go.Proofs.Ytdkgkiemndlneaa.px_xor_u64
def store_Many.l0 : Nat → Int → List (S55) → Int → Int → Option (Int)
 | 0, _, _, _, _ => none
 | k + 1, x3, x7, x8, x9 => if x9 < x8 then (if 0 ≤ x9 then (if x9 < (x7.length : Int) then (store_Many.l0 k (wrap64 (x3 + (((rd_T55 x7 x9).f1).length : Int))) x7 x8 (wrap64 (x9 + 1))) else (none)) else (none)) else (some x3)
def store_Many.f (k : Nat) (l0_0 : List (S55)) (l0_1 : List (S61)) (a0_2 : Int) : Option (Int) := store_Many.l0 k 0 l0_0 (l0_0.length : Int) 0
theorem store_Many.mono_l : ∀ k, (∀ y0 y1 y2 y3, LeO (store_Many.l0 k y0 y1 y2 y3) (store_Many.l0 (k + 1) y0 y1 y2 y3))
 | 0 => fun _ _ _ _ r h => by simp [store_Many.l0] at h
 | k + 1 => by
  have ih0 := store_Many.mono_l k
  ·intro y0 y1 y2 y3
   unfold store_Many.l0
   repeat' first
   | (with_reducible exact ih0 _ _ _ _)
   | (with_reducible exact LeO.refl _)
   | (with_reducible exact LeO.none _)
   | (with_reducible refine LeO.ite ?_ ?_)
   | (with_reducible refine LeO.bind ?_ (fun _ => ?_))
   | exact ih0 _ _ _ _
   | exact LeO.none _
   | refine LeO.ite ?_ ?_
   | refine LeO.bind ?_ (fun _ => ?_)
theorem store_Many.mono : ∀ a0 a1 a2 k, LeO (store_Many.f k a0 a1 a2) (store_Many.f (k + 1) a0 a1 a2) := by
 intro a0 a1 a2 k
 have ih0 := store_Many.mono_l k
 unfold store_Many.f
 repeat' first
   | (with_reducible exact ih0 _ _ _ _)
   | (with_reducible exact LeO.refl _)
   | (with_reducible exact LeO.none _)
   | (with_reducible refine LeO.ite ?_ ?_)
   | (with_reducible refine LeO.bind ?_ (fun _ => ?_))
   | exact ih0 _ _ _ _
   | exact LeO.none _
   | refine LeO.ite ?_ ?_
   | refine LeO.bind ?_ (fun _ => ?_)
set_option maxHeartbeats 8000000 in
set_option maxRecDepth 100000 in
theorem store_Many.calls (k : Nat) (A0_0 : Option Addr) (c0_0 : Nat) (l0_0 : List (S55)) (A0_1 : Option Addr) (c0_1 : Nat) (l0_1 : List (S61)) (a0_2 : Int) (r : Int) (w : World) (hr0_0 : Kd.C k55 w A0_0 l0_0.length l0_0) (hc0_0 : l0_0.length ≤ c0_0) (hr0_1 : Kd.C k61 w A0_1 l0_1.length l0_1) (hc0_1 : l0_1.length ≤ c0_1) (h : store_Many.f k l0_0 l0_1 a0_2 = some r) :
  Calls Try.prog 19 #[.agg #[.slice A0_0 l0_0.length c0_0, .slice A0_1 l0_1.length c0_1, .int .i64 a0_2]] w fun e w' => e = .returned (.int .i64 r) ∧ Below w.heap.size w w' := by
 have hu25 := Try.underlying25
 have hu55 := Try.underlying55
 have HR0_0 := zqj hr0_0
 have HC0_0 := zqj hc0_0
 clear hr0_0 hc0_0
 have HR0_1 := zqj hr0_1
 have HC0_1 := zqj hc0_1
 clear hr0_1 hc0_1
 have HB := zqj (Below.refl w.heap.size w)
 have H : (store_Many.l0 k 0 l0_0 (l0_0.length : Int) 0) = some r := h
 clear h
 have H' := zqj H
 clear H
 go_enter Try.func19, Try.ntmps19
 go_wp2_with (first | ((with_reducible refine gate_dst (N := 1) rfl ?_); refine box_event ?hg (N := 1) ?hd (cs := #[.slice A0_0 l0_0.length c0_0, .slice A0_1 l0_1.length c0_1, .int .i64 a0_2]) (t := 25) ?hr ?_; (case hd => rfl); (case hg => rfl); (case hr => exact zrr); intro gb122 hg w2 hbox hb; have n0_ := zqj (below_step (zrd0 HB.out) hb); have n1_ := zqj (hbox); have n2_ : Aside0 (w.heap.size ≤ gb122) := ⟨by rw [hg]; exact below_size (zrd0 HB.out)⟩; have n3_ := n2_; clear HB; have HB := n0_; have BK122 := n1_; have GW122 := n2_; have GE122 := n3_; clear n0_ n1_ n2_ n3_; clear hb hbox hg; obtain ⟨hcz3_0, hcz3_1, hcz3_2⟩ := zc3 BK122.out; obtain ⟨hfz3_0, hfz3_1, hfz3_2⟩ := zf3 BK122.out))
 go_loopg [3, 9] k (fun kq v3 v9 w' => ∃ (x3_1 : Int) (x9_1 : Int), v3 = .int .i64 x3_1 ∧ v9 = .int .i64 x9_1 ∧ Aside0 (store_Many.l0 kq x3_1 l0_0 (l0_0.length : Int) x9_1 = some r) ∧ Aside0 (kq ≤ k) ∧ Aside0 (w'.heap[gb122]? = some (.cells #[(.slice A0_0 l0_0.length c0_0), (.slice A0_1 l0_1.length c0_1), .int .i64 a0_2] 25 (0, 0))) ∧ Aside0 (Below w.heap.size w w'))
 case atStart => exact ⟨(0), (0), zrt, zrt, H', ⟨Nat.le_refl _⟩, ⟨by (with_reducible repeat (first | refine zqa ?_ _ | refine zqb ?_ | refine zqc ?_ _)); exact BK122.out⟩, ⟨by repeat (first | (with_reducible first | exact HB.out | apply zqg | apply zqe | apply zqf | refine zqd ?_ GE122.out) | exact HB.out)⟩⟩
 case round =>
  clear H'
  ((try clear c1); (try clear p2); (try clear hcz3_0); (try clear hcz3_1); (try clear hcz3_2); (try clear hfz3_0); (try clear hfz3_1); (try clear hfz3_2))
  obtain ⟨x3_1, x9_1, rfl, rfl, HA, HK1, BK122, HB⟩ := hrel
  cases gk with
  | zero => exact absurd HA.out (by simp [store_Many.l0])
  | succ k1 =>
   (have H := HA.out; clear HA)
   simp only [store_Many.l0] at H
   by_cases c4 : x9_1 < (l0_0.length : Int)
   ·rw [if_pos c4] at H
    have c4b0 : decide (x9_1 < (l0_0.length : Int)) = true := decide_eq_true c4
    clear c4
    by_cases c5 : 0 ≤ x9_1
    ·rw [if_pos c5] at H
     have c5b0 : decide (0 ≤ x9_1) = true := decide_eq_true c5
     clear c5
     by_cases c6 : x9_1 < (l0_0.length : Int)
     ·rw [if_pos c6] at H
      have c6b0 : decide (x9_1 < (l0_0.length : Int)) = true := decide_eq_true c6
      clear c6
      have H' := zqj H
      clear H
      have p123 : 0 ≤ (x9_1 : Int) := zqh zrs
      have q123 : x9_1 < (l0_0.length : Int) := zqh zrs
      obtain ⟨ad123, A123_1, c123_1, e123, hx123_0, hx123_1, hl123_1, hi123_1⟩ := at_T55 HR0_0.out x9_1 p123 q123
      cases e123
      replace hx123_0 := zx HB.out hx123_0
      replace hx123_1 := zx HB.out hx123_1
      have HR123_1 := zqj hi123_1
      have HC123_1 := zqj hl123_1
      clear hi123_1 hl123_1
      replace p123 := eq_true p123
      replace q123 := eq_true q123
      go_wp2_with (first | ((with_reducible refine gate_dst (N := 5) rfl ?_); refine box_event ?hg (N := 5) ?hd (cs := #[.int .i64 0, .slice none 0 0]) (t := 55) ?hr ?_; (case hd => rfl); (case hg => rfl); (case hr => exact zrr); intro gb124 hg w7 hbox hb; have n0_ := zqj (blk_below (g := gb122) (o := .cells #[.slice (some ad123) l0_0.length c0_0, .slice A0_1 l0_1.length c0_1, .int .i64 a0_2] 25 (0, 0)) (zrb BK122.out) hb); have n1_ := zqj (below_step (zrd1 HB.out GE122.out) hb); have n2_ := zqj (hbox); have n3_ := zqj ((by rw [hg]; exact (below_size (zrd1 HB.out GE122.out)) : w.heap.size ≤ gb124)); have n4_ := zqj ((by rw [hg]; exact (below_size (zrd1 HB.out GE122.out)) : w.heap.size ≤ gb124)); have n5_ := zqj ((by rw [hg]; exact Nat.ne_of_lt (blk_lt (g := gb122) (o := .cells #[.slice (some ad123) l0_0.length c0_0, .slice A0_1 l0_1.length c0_1, .int .i64 a0_2] 25 (0, 0)) (zrb BK122.out)) : gb122 ≠ gb124)); have n6_ := zqj ((by rw [hg]; exact Nat.ne_of_gt (blk_lt (g := gb122) (o := .cells #[.slice (some ad123) l0_0.length c0_0, .slice A0_1 l0_1.length c0_1, .int .i64 a0_2] 25 (0, 0)) (zrb BK122.out)) : gb124 ≠ gb122)); clear BK122; clear HB; have BK122 := n0_; have HB := n1_; have BK124 := n2_; have GW124 := n3_; have GE124 := n4_; have NB122_124 := n5_; have NB124_122 := n6_; clear n0_ n1_ n2_ n3_ n4_ n5_ n6_; clear hb hbox hg; have hnb8 := NB124_122.out; have hnc8 := NB122_124.out; obtain ⟨hcz9_0, hcz9_1⟩ := zc2 BK124.out; obtain ⟨hfz9_0, hfz9_1⟩ := zf2 BK124.out))
      go_roundg k1
      case measure => have := HK1.out; omega
      case rel => exact ⟨(wrap64 (x3_1 + (((rd_T55 l0_0 x9_1).f1).length : Int))), (wrap64 (x9_1 + 1)), zrt, zrt, H', ⟨by have := HK1.out; omega⟩, ⟨by (iterate 2 ((with_reducible repeat (first | refine zqa ?_ _ | refine zqb ?_ | refine zqc ?_ _)); refine blk_far ?_ NB122_124.out _)); (with_reducible repeat (first | refine zqa ?_ _ | refine zqb ?_ | refine zqc ?_ _)); exact BK122.out⟩, ⟨by repeat (first | (with_reducible first | exact HB.out | apply zqg | apply zqe | apply zqf | refine zqd ?_ GE122.out | refine zqd ?_ GE124.out) | exact HB.out)⟩⟩
     ·rw [if_neg c6] at H
      exact absurd H (by simp)
    ·rw [if_neg c5] at H
     exact absurd H (by simp)
   ·rw [if_neg c4] at H
    have c4b0 : decide (x9_1 < (l0_0.length : Int)) = false := decide_eq_false c4
    clear c4
    obtain rfl := Option.some.inj H
    go_wp2
    go_ret
    exact ⟨zru, by repeat (first | (with_reducible first | exact HB.out | apply zqg | apply zqe | apply zqf | refine zqd ?_ GE122.out) | exact HB.out)⟩
def tree_New.f  : Option ((List (S38)) × Int) := some ((([(⟨1, 2, 0, (⟨#[]⟩ : ByteArray), ([] : List (S91))⟩ : S38)] : List (S38))), 2)
set_option maxHeartbeats 8000000 in
set_option maxRecDepth 100000 in
theorem tree_New.calls  (r1 : List (S38)) (r2 : Int) (w : World) (h : tree_New.f  = some (r1, r2)) :
  Calls Try.prog 54 #[] w fun e w' => ∃ v0_ : Value, e = .returned (.agg #[v0_, .int .i64 r2]) ∧ Kd.S k38 38 w' w.heap.size (fun _ => True) v0_ r1 ∧ Below w.heap.size w w' := by
 have hu34 := Try.underlying34
 have hu38 := Try.underlying38
 have HB := zqj (Below.refl w.heap.size w)
 have H : (some ((([(⟨1, 2, 0, (⟨#[]⟩ : ByteArray), ([] : List (S91))⟩ : S38)] : List (S38))), 2)) = some (r1, r2) := h
 clear h
 obtain ⟨y126, hy126⟩ : ∃ y_ : List (S38), y_ = (([(⟨1, 2, 0, (⟨#[]⟩ : ByteArray), ([] : List (S91))⟩ : S38)] : List (S38))) := ⟨_, rfl⟩
 replace H : (some (y126, 2)) = some (r1, r2) := by first | (rw [hy126]; with_reducible exact H) | (have H2_ := (Option.bind_some _ _).symm.trans H; rw [hy126]; with_reducible exact H2_) | (have H2_ := (Option.bind_some _ _).symm.trans H; with_reducible exact H2_) | with_reducible exact H | (rw [hy126]; exact H) | exact H
 have Ny126 := zqj hy126
 clear hy126
 simp only [Option.some.injEq, Prod.mk.injEq] at H
 obtain ⟨rfl, rfl⟩ := H
 go_enter Try.func54, Try.ntmps54
 go_wp2_with (first | ((with_reducible refine gate_dst (N := 0) rfl ?_); refine box_event ?hg (N := 0) ?hd (cs := #[.slice none 0 0, .int .i64 0]) (t := 34) ?hr ?_; (case hd => rfl); (case hg => rfl); (case hr => exact zrr); intro gb125 hg w1 hbox hb; have n0_ := zqj (below_step (zrd0 HB.out) hb); have n1_ := zqj (hbox); have n2_ : Aside0 (w.heap.size ≤ gb125) := ⟨by rw [hg]; exact below_size (zrd0 HB.out)⟩; have n3_ := n2_; clear HB; have HB := n0_; have BK125 := n1_; have GW125 := n2_; have GE125 := n3_; clear n0_ n1_ n2_ n3_; clear hb hbox hg) | ((with_reducible refine gate_dst (N := 2) rfl ?_); refine Kd.S_lit k38 _ 38 ?hg (N := 2) ?hd (xs := ([(⟨1, 2, 0, (⟨#[]⟩ : ByteArray), ([] : List (S91))⟩ : S38)] : List (S38))) (inner := [.int .i64 1, .int .i64 2, .int .i64 0, .string (⟨#[]⟩ : ByteArray), .slice none 0 0]) (ok := fun _ => True) (okp := fun _ => True) ?hr ?hp (fun _ hk => hk) trivial (Below.refl _ _) (Nat.le_refl _) (by simp) ?_; (case hd => rfl); (case hg => rfl); (case hr => exact zrr); (case hp => exact (Reps.c5 (show Kd.M k38 _ _ _ (⟨1, 2, 0, (⟨#[]⟩ : ByteArray), ([] : List (S91))⟩ : S38) [.int .i64 1, .int .i64 2, .int .i64 0, .string (⟨#[]⟩ : ByteArray), .slice none 0 0] from (k38_mkM _ _ _ (⟨1, 2, 0, (⟨#[]⟩ : ByteArray), ([] : List (S91))⟩ : S38) (Kd.R_nil _ _ _ _ _))) (Reps.none _ _))); intro v127 w2 ho3 hb hg_ hnew_; clear hg_ hnew_; (first | rw [← Ny126.out] at ho3 | (simp only [Int.reduceToNat] at ho3; rw [← Ny126.out] at ho3)); have n0_ := zqj (Kd.S_lower ho3 (below_size (zrd1 HB.out GE125.out))); have n1_ := zqj (blk_below (g := gb125) (o := .cells #[.slice none 0 0, .int .i64 0] 34 (0, 0)) (zrb BK125.out) hb); have n2_ := zqj (below_step (zrd1 HB.out GE125.out) hb); clear BK125; clear HB; have HO128 := n0_; have BK125 := n1_; have HB := n2_; clear n0_ n1_ n2_; clear hb ho3; obtain ⟨Ao4, co4, eo4⟩ := Kd.S_slice HO128.out; subst eo4; obtain ⟨hcz5_0, hcz5_1⟩ := zc2 BK125.out; obtain ⟨hfz5_0, hfz5_1⟩ := zf2 BK125.out))
 refine bodyPost_ret (results_cell_row rfl _ _ gb125 34 #[.slice Ao4 y126.length co4, .int .i64 2] (0, 0) _ rfl (by (with_reducible repeat (first | refine zqa ?_ _ | refine zqb ?_ | refine zqc ?_ _)); refine blk_put (cs := #[.slice Ao4 y126.length co4, .int .i64 0]) ?_ 1 _ rfl; (with_reducible repeat (first | refine zqa ?_ _ | refine zqb ?_ | refine zqc ?_ _)); refine blk_put (cs := #[.slice none 0 0, .int .i64 0]) ?_ 0 _ rfl; (with_reducible repeat (first | refine zqa ?_ _ | refine zqb ?_ | refine zqc ?_ _)); exact BK125.out) Try.underlying34 rfl (by kernel_rfl)) rfl ?_
 exact ⟨_, zru, by (with_reducible repeat (first | apply Kd.S_alloc | apply Kd.S_drewN | apply Kd.S_drew)); exact Kd.S_mono (Kd.S_far (p := ⟨gb125, 1, none⟩) (Kd.S_far (p := ⟨gb125, 0, none⟩) (Kd.S_types HO128.out BK125.out (by decide)) (fun _ hk => hk.2) (.slice Ao4 y126.length co4)) (fun _ hk => hk.2) (.int .i64 2)) (fun _ hk => trivial), by repeat (first | (with_reducible first | exact HB.out | apply zqg | apply zqe | apply zqf | refine zqd ?_ GE125.out) | exact HB.out)⟩
def store_New.f  : Option ((List (S55)) × (List (S61)) × Int) := (tree_New.f).bind fun bt130 => (if 0 < (bt130.1.length : Int) then (some ((([(⟨1, (([(⟨1, false, (⟨(rd_T38 bt130.1 0).f0, (rd_T38 bt130.1 0).f1, (rd_T38 bt130.1 0).f2, (rd_T38 bt130.1 0).f3, (rd_T38 bt130.1 0).f4⟩ : S38)⟩ : S58)] : List (S58)))⟩ : S55)] : List (S55))), (([(⟨1, bt130.2⟩ : S61)] : List (S61))), 1)) else (none))
def store_New.T2 : Bool × List (List Nat × List Nat) := (true, [([], []), ([0], [0]), ([1], [1]), ([2], [2]), ([3], [3]), ([4], [4]), ([5], [5]), ([6], [6]), ([], []), ([8], [8]), ([9], [9]), ([10], [10]), ([7, 11], [7, 11]), ([12, 0, 1, 2, 3, 4, 5, 6, 7, 8, 9, 10, 11, 12], [12])])
def store_New.B2 : List Nat := [0, 1, 3, 7, 15, 31, 63, 127, 0, 256, 768, 1792, 4095, 8191]
theorem store_New.tab2 : rtab .any (opsOf Try.f27 2) = store_New.T2 := by kernel_rfl
theorem store_New.bits2 : waitsOk store_New.T2.2 store_New.B2 = true := by kernel_rfl
set_option maxHeartbeats 8000000 in
set_option maxRecDepth 100000 in
theorem store_New.calls  (r1 : List (S55)) (r2 : List (S61)) (r3 : Int) (w : World) (h : store_New.f  = some (r1, r2, r3)) :
  Calls Try.prog 27 #[] w fun e w' => ∃ v0_ v1_ : Value, e = .returned (.agg #[v0_, v1_, .int .i64 r3]) ∧ Kd.N k55 55 w' w.heap.size (fun k_ => (w.heap.size ≤ k_) ∧ some k_ ≠ (v1_ : Value).ownBlock) v0_ r1 ∧ Kd.R k61 61 w' w.heap.size (fun k_ => (w.heap.size ≤ k_)) v1_ r2 ∧ Below w.heap.size w w' := by
 have hu25 := Try.underlying25
 have hu34 := Try.underlying34
 have hu38 := Try.underlying38
 have hu58 := Try.underlying58
 have hu55 := Try.underlying55
 have hu61 := Try.underlying61
 have HB := zqj (Below.refl w.heap.size w)
 have H : ((tree_New.f).bind fun bt130 => (if 0 < (bt130.1.length : Int) then (some ((([(⟨1, (([(⟨1, false, (⟨(rd_T38 bt130.1 0).f0, (rd_T38 bt130.1 0).f1, (rd_T38 bt130.1 0).f2, (rd_T38 bt130.1 0).f3, (rd_T38 bt130.1 0).f4⟩ : S38)⟩ : S58)] : List (S58)))⟩ : S55)] : List (S55))), (([(⟨1, bt130.2⟩ : S61)] : List (S61))), 1)) else (none))) = some (r1, r2, r3) := h
 clear h
 replace H := zqn H
 obtain ⟨⟨t130, t133⟩, A10, H⟩ := H
 replace H : (if 0 < (t130.length : Int) then (some ((([(⟨1, (([(⟨1, false, (⟨(rd_T38 t130 0).f0, (rd_T38 t130 0).f1, (rd_T38 t130 0).f2, (rd_T38 t130 0).f3, (rd_T38 t130 0).f4⟩ : S38)⟩ : S58)] : List (S58)))⟩ : S55)] : List (S55))), (([(⟨1, t133⟩ : S61)] : List (S61))), 1)) else (none)) = some (r1, r2, r3) := H
 have A1 := zqj A10
 clear A10
 by_cases c2 : 0 < (t130.length : Int)
 ·rw [if_pos c2] at H
  have c2b0 : decide (0 < (t130.length : Int)) = true := decide_eq_true c2
  have c2b1 : decide (0 < t130.length) = true := decide_eq_true (by omega)
  clear c2
  obtain ⟨y136, hy136⟩ : ∃ y_ : List (S58), y_ = (([(⟨1, false, (⟨(rd_T38 t130 0).f0, (rd_T38 t130 0).f1, (rd_T38 t130 0).f2, (rd_T38 t130 0).f3, (rd_T38 t130 0).f4⟩ : S38)⟩ : S58)] : List (S58))) := ⟨_, rfl⟩
  replace H : (some ((([(⟨1, y136⟩ : S55)] : List (S55))), (([(⟨1, t133⟩ : S61)] : List (S61))), 1)) = some (r1, r2, r3) := by first | (rw [hy136]; with_reducible exact H) | (have H2_ := (Option.bind_some _ _).symm.trans H; rw [hy136]; with_reducible exact H2_) | (have H2_ := (Option.bind_some _ _).symm.trans H; with_reducible exact H2_) | with_reducible exact H | (rw [hy136]; exact H) | exact H
  have Ny136 := zqj hy136
  clear hy136
  obtain ⟨y139, hy139⟩ : ∃ y_ : List (S55), y_ = (([(⟨1, y136⟩ : S55)] : List (S55))) := ⟨_, rfl⟩
  replace H : (some (y139, (([(⟨1, t133⟩ : S61)] : List (S61))), 1)) = some (r1, r2, r3) := by first | (rw [hy139]; with_reducible exact H) | (have H2_ := (Option.bind_some _ _).symm.trans H; rw [hy139]; with_reducible exact H2_) | (have H2_ := (Option.bind_some _ _).symm.trans H; with_reducible exact H2_) | with_reducible exact H | (rw [hy139]; exact H) | exact H
  have Ny139 := zqj hy139
  clear hy139
  obtain ⟨y142, hy142⟩ : ∃ y_ : List (S61), y_ = (([(⟨1, t133⟩ : S61)] : List (S61))) := ⟨_, rfl⟩
  replace H : (some (y139, y142, 1)) = some (r1, r2, r3) := by first | (rw [hy142]; with_reducible exact H) | (have H2_ := (Option.bind_some _ _).symm.trans H; rw [hy142]; with_reducible exact H2_) | (have H2_ := (Option.bind_some _ _).symm.trans H; with_reducible exact H2_) | with_reducible exact H | (rw [hy142]; exact H) | exact H
  have Ny142 := zqj hy142
  clear hy142
  simp only [Option.some.injEq, Prod.mk.injEq] at H
  obtain ⟨rfl, rfl, rfl⟩ := H
  go_enter Try.func27, Try.ntmps27
  try go_wp2_with (first | ((with_reducible refine gate_dst (N := 0) rfl ?_); refine box_event ?hg (N := 0) ?hd (cs := #[.slice none 0 0, .slice none 0 0, .int .i64 0]) (t := 25) ?hr ?_; (case hd => rfl); (case hg => rfl); (case hr => exact zrr); intro gb129 hg w3 hbox hb; have n0_ := zqj (below_step (zrd0 HB.out) hb); have n1_ := zqj (hbox); have n2_ : Aside0 (w.heap.size ≤ gb129) := ⟨by rw [hg]; exact below_size (zrd0 HB.out)⟩; have n3_ := n2_; clear HB; have HB := n0_; have BK129 := n1_; have GW129 := n2_; have GE129 := n3_; clear n0_ n1_ n2_ n3_; clear hb hbox hg) | ((with_reducible refine gate_callee (f := 54) rfl ?_); refine goesL_ (some 2) rfl rfl Try.func54 (by kernel_rfl) rfl #[] rfl zra ?_; (with_reducible refine (tree_New.calls  t130 t133 _ A1.out).mono ?_); rintro e w4 ⟨v131, rfl, ho0, hb⟩; refine ⟨_, rfl, ?_⟩; have n0_ := zqj (Kd.N_lower (Kd.N_mono (ok' := fun k_ => (w.heap.size ≤ k_) ∧ k_ ≠ gb129) (Kd.S_N (Kd.S_bound ho0)) (fun k_ hk_ => ⟨(Nat.le_trans (below_size (zrd1 HB.out GE129.out)) hk_.2.1), (Kd.freshB (g := gb129) (o := .cells #[.slice none 0 0, .slice none 0 0, .int .i64 0] 25 (0, 0)) (zrb BK129.out) k_ hk_.2.1)⟩)) (below_size (zrd1 HB.out GE129.out))); have n1_ := zqj (blk_below (g := gb129) (o := .cells #[.slice none 0 0, .slice none 0 0, .int .i64 0] 25 (0, 0)) (zrb BK129.out) hb); have n2_ := zqj (below_step (zrd1 HB.out GE129.out) hb); clear BK129; clear HB; have HO132 := n0_; have BK129 := n1_; have HB := n2_; clear n0_ n1_ n2_; (try clear hb); (try clear hb2); (try clear hk); (try clear hi); (try clear ho0)) | ((with_reducible refine gate_dst (N := 1) rfl ?_); refine box_event ?hg (N := 1) ?hd (cs := #[.slice none 0 0, .int .i64 0]) (t := 34) ?hr ?_; (case hd => rfl); (case hg => rfl); (case hr => exact zrr); intro gb134 hg w5 hbox hb; have n0_ := zqj (Kd.N_below (Kd.N_elderB (zrN HO132.out) gb134 (Nat.le_of_eq hg.symm)) hb); have n1_ := zqj (blk_below (g := gb129) (o := .cells #[.slice none 0 0, .slice none 0 0, .int .i64 0] 25 (0, 0)) (zrb BK129.out) hb); have n2_ := zqj (below_step (zrd1 HB.out GE129.out) hb); have n3_ := zqj (hbox); have n4_ := zqj ((by rw [hg]; exact (below_size (zrd1 HB.out GE129.out)) : w.heap.size ≤ gb134)); have n5_ := zqj ((by rw [hg]; exact (below_size (zrd1 HB.out GE129.out)) : w.heap.size ≤ gb134)); have n6_ := zqj ((by rw [hg]; exact Nat.ne_of_lt (blk_lt (g := gb129) (o := .cells #[.slice none 0 0, .slice none 0 0, .int .i64 0] 25 (0, 0)) (zrb BK129.out)) : gb129 ≠ gb134)); have n7_ := zqj ((by rw [hg]; exact Nat.ne_of_gt (blk_lt (g := gb129) (o := .cells #[.slice none 0 0, .slice none 0 0, .int .i64 0] 25 (0, 0)) (zrb BK129.out)) : gb134 ≠ gb129)); clear HO132; clear BK129; clear HB; have HO132 := n0_; have BK129 := n1_; have HB := n2_; have BK134 := n3_; have GW134 := n4_; have GE134 := n5_; have NB129_134 := n6_; have NB134_129 := n7_; clear n0_ n1_ n2_ n3_ n4_ n5_ n6_ n7_; clear hb hbox hg; obtain ⟨Ao6, co6, eo6⟩ := Kd.N_slice HO132.out; subst eo6; have hnb7 := NB134_129.out; have hnc7 := NB129_134.out; obtain ⟨hcz8_0, hcz8_1⟩ := zc2 BK134.out; obtain ⟨hfz8_0, hfz8_1⟩ := zf2 BK134.out))
  have n0_ : Aside0 (Kd.N k38 38 ((w5.setCell ⟨gb134, 0, none⟩ (.slice Ao6 t130.length co6)).setCell ⟨gb134, 1, none⟩ (.int .i64 t133)) w.heap.size (fun k_ => (w.heap.size ≤ k_) ∧ k_ ≠ gb129 ∧ k_ ≠ gb134) (.slice Ao6 t130.length co6) t130) := ⟨by (with_reducible repeat (first | apply Kd.N_alloc | apply Kd.N_drewN | apply Kd.N_drew)); exact Kd.N_mono (Kd.N_far (p := ⟨gb134, 1, none⟩) (Kd.N_far (p := ⟨gb134, 0, none⟩) (Kd.N_mono HO132.out (fun k_ hk => (⟨hk, hk.2⟩ : _ ∧ k_ ≠ gb134))) (fun _ hk => hk.2) (.slice Ao6 t130.length co6)) (fun _ hk => hk.2) (.int .i64 t133)) (fun _ hk => ⟨hk.1.1.1, ⟨hk.1.1.2, hk.1.2⟩⟩)⟩
  have n1_ : Aside0 (((w5.setCell ⟨gb134, 0, none⟩ (.slice Ao6 t130.length co6)).setCell ⟨gb134, 1, none⟩ (.int .i64 t133)).heap[gb129]? = some (.cells #[.slice none 0 0, .slice none 0 0, .int .i64 0] 25 (0, 0))) := ⟨by (iterate 2 ((with_reducible repeat (first | refine zqa ?_ _ | refine zqb ?_ | refine zqc ?_ _)); refine blk_far ?_ NB129_134.out _)); (with_reducible repeat (first | refine zqa ?_ _ | refine zqb ?_ | refine zqc ?_ _)); exact BK129.out⟩
  have n2_ : Aside0 (((w5.setCell ⟨gb134, 0, none⟩ (.slice Ao6 t130.length co6)).setCell ⟨gb134, 1, none⟩ (.int .i64 t133)).heap[gb134]? = some (.cells #[.slice Ao6 t130.length co6, .int .i64 t133] 34 (0, 0))) := ⟨by (with_reducible repeat (first | refine zqa ?_ _ | refine zqb ?_ | refine zqc ?_ _)); refine blk_put (cs := #[.slice Ao6 t130.length co6, .int .i64 0]) ?_ 1 _ rfl; (with_reducible repeat (first | refine zqa ?_ _ | refine zqb ?_ | refine zqc ?_ _)); refine blk_put (cs := #[.slice none 0 0, .int .i64 0]) ?_ 0 _ rfl; (with_reducible repeat (first | refine zqa ?_ _ | refine zqb ?_ | refine zqc ?_ _)); exact BK134.out⟩
  have n3_ : Aside0 (Below w.heap.size w ((w5.setCell ⟨gb134, 0, none⟩ (.slice Ao6 t130.length co6)).setCell ⟨gb134, 1, none⟩ (.int .i64 t133))) := ⟨by repeat (first | (with_reducible first | exact HB.out | apply zqg | apply zqe | apply zqf | refine zqd ?_ GE129.out | refine zqd ?_ GE134.out) | exact HB.out)⟩
  ((try clear HO132); (try clear BK129); (try clear BK134); (try clear HB))
  generalize ((w5.setCell ⟨gb134, 0, none⟩ (.slice Ao6 t130.length co6)).setCell ⟨gb134, 1, none⟩ (.int .i64 t133)) = w9 at n0_ n1_ n2_ n3_ ⊢
  (have HO132 := n0_; have BK129 := n1_; have BK134 := n2_; have HB := n3_; clear n0_ n1_ n2_ n3_)
  replace HO132 := zqj (Kd.N_drew HO132.out); replace BK129 := zqj (zqb BK129.out); replace BK134 := zqj (zqb BK134.out); replace HB := zqj (zqf HB.out)
  have p135 : 0 ≤ (0 : Int) := (by omega)
  have q135 : 0 < (t130.length : Int) := zqh zrs
  obtain ⟨ad135, A135_4, c135_4, e135, hx135_0, hx135_1, hx135_2, hx135_3, hx135_4, hl135_4, hi135_4⟩ := at_T38 (Kd.N_reads' HO132.out).2.2 0 p135 q135
  cases e135
  obtain ⟨ce135, hce135, hMe135, hcc135⟩ := Kd.N_get HO132.out z38 0 p135 (by first | exact q135 | exact zqh zrs | (have e_ := (Kd.N_reads' HO132.out).1; omega))
  obtain ⟨ua135_4, uc135_4, rfl, ul135_4, ge135_4⟩ := k38_openF hMe135
  have hv135_4 := hcc135 4 _ rfl
  rw [add_field _ _ 4 (by omega)] at hv135_4
  replace hv135_4 := Option.some.inj (hv135_4.symm.trans hx135_4)
  injection hv135_4 with hva_ hvn_ hvc_
  rw [hva_] at ge135_4
  rw [hvc_] at ul135_4
  have HL135_4 := zqj (show Kd.V k91 91 _ w.heap.size _ _ ((rd_T38 t130 0).f4) from Kd.V_mk ul135_4 ge135_4)
  (clear hva_ hvn_ hvc_ ge135_4 ul135_4; clear hcc135 hce135)
  have qi135 : (0 < t130.length) = True := eq_true (by omega)
  (try rw [show ((0 : Int)).toNat = 0 from rfl] at hx135_0)
  (try rw [show 0 * 5 = 0 from rfl] at hx135_0)
  (try rw [Addr.add_zero'] at hx135_0)
  (try rw [show ((0 : Int)).toNat = 0 from rfl] at hx135_1)
  (try rw [show 0 * 5 = 0 from rfl] at hx135_1)
  (try rw [Addr.add_zero'] at hx135_1)
  (try rw [show ((0 : Int)).toNat = 0 from rfl] at hx135_2)
  (try rw [show 0 * 5 = 0 from rfl] at hx135_2)
  (try rw [Addr.add_zero'] at hx135_2)
  (try rw [show ((0 : Int)).toNat = 0 from rfl] at hx135_3)
  (try rw [show 0 * 5 = 0 from rfl] at hx135_3)
  (try rw [Addr.add_zero'] at hx135_3)
  (try rw [show ((0 : Int)).toNat = 0 from rfl] at hx135_4)
  (try rw [show 0 * 5 = 0 from rfl] at hx135_4)
  (try rw [Addr.add_zero'] at hx135_4)
  have HR135_4 := zqj hi135_4
  have HC135_4 := zqj hl135_4
  clear hi135_4 hl135_4
  replace p135 := eq_true p135
  replace q135 := eq_true q135
  refine start_ (n := 14) (S := fun w' => w'.cell? ⟨gb134, 0, none⟩ = some (.slice (some ad135) t130.length co6) ∧ w'.cell? ⟨gb134, 1, none⟩ = some (.int .i64 t133) ∧ w'.cell? ad135 = some (.int .i64 ((rd_T38 t130 0).f0)) ∧ w'.cell? ⟨ad135.block, ad135.off + 1, none⟩ = some (.int .i64 ((rd_T38 t130 0).f1)) ∧ w'.cell? ⟨ad135.block, ad135.off + 2, none⟩ = some (.int .i64 ((rd_T38 t130 0).f2)) ∧ w'.cell? ⟨ad135.block, ad135.off + 3, none⟩ = some (.string ((rd_T38 t130 0).f3)) ∧ w'.cell? ⟨ad135.block, ad135.off + 4, none⟩ = some (.slice A135_4 ((rd_T38 t130 0).f4).length c135_4)) (ds := []) #[false, false, false, false, false, false, false, false, false, false, false, false, false, false] (by kernel_rfl) rfl rfl ⟨(blk_cell BK134.out 0).trans rfl, (blk_cell BK134.out 1).trans rfl, hx135_0, hx135_1, hx135_2, hx135_3, hx135_4⟩ (fun hHeld => ?_); refine with_tabW store_New.tab2 store_New.bits2 (fun HT_ HW_ => ?_)
  generalize w9.drew = w10 at HO132 BK129 BK134 HB HL135_4 HR135_4 hx135_0 hx135_1 hx135_2 hx135_3 hx135_4 hHeld ⊢
  refine zp 0 3 (zb 14 1) HT_.out ?_
  refine zp 8 11 (zb 14 257) HT_.out ?_
  refine zt 1 4 (zb 14 259) HT_.out HW_.out hHeld ?_
  refine zp 2 5 (zb 14 263) HT_.out ?_
  refine zt 3 6 (zb 14 271) HT_.out HW_.out hHeld ?_
  refine zp 4 7 (zb 14 287) HT_.out ?_
  refine zt 9 12 (zb 14 799) HT_.out HW_.out hHeld ?_
  refine zp 10 13 (zb 14 1823) HT_.out ?_
  refine join_ (σ := Value × Value × Value) 2 (zb 14 4095) (fun s_ => [(8, s_.1), (10, s_.2.1), (14, s_.2.2), (9, .agg #[.int .i64 1, s_.1])]) (fun s_ w' => (w'.cell? ⟨gb134, 0, none⟩ = some (.slice (some ad135) t130.length co6) ∧ w'.cell? ⟨gb134, 1, none⟩ = some (.int .i64 t133) ∧ w'.cell? ad135 = some (.int .i64 ((rd_T38 t130 0).f0)) ∧ w'.cell? ⟨ad135.block, ad135.off + 1, none⟩ = some (.int .i64 ((rd_T38 t130 0).f1)) ∧ w'.cell? ⟨ad135.block, ad135.off + 2, none⟩ = some (.int .i64 ((rd_T38 t130 0).f2)) ∧ w'.cell? ⟨ad135.block, ad135.off + 3, none⟩ = some (.string ((rd_T38 t130 0).f3)) ∧ w'.cell? ⟨ad135.block, ad135.off + 4, none⟩ = some (.slice A135_4 ((rd_T38 t130 0).f4).length c135_4)) ∧ (Kd.V k91 91 w' w.heap.size (fun k_ => (w.heap.size ≤ k_) ∧ some k_ ≠ (.slice (some ad135) t130.length co6 : Value).ownBlock ∧ some k_ ≠ (s_.2.1 : Value).ownBlock ∧ some k_ ≠ (s_.2.2 : Value).ownBlock ∧ k_ ≠ gb129 ∧ k_ ≠ gb134) (.slice A135_4 ((rd_T38 t130 0).f4).length c135_4) ((rd_T38 t130 0).f4)) ∧ (Kd.N k38 38 w' w.heap.size (fun k_ => (w.heap.size ≤ k_) ∧ some k_ ≠ (s_.2.1 : Value).ownBlock ∧ some k_ ≠ (s_.2.2 : Value).ownBlock ∧ k_ ≠ gb129 ∧ k_ ≠ gb134) (.slice (some ad135) t130.length co6) t130) ∧ (Kd.N k55 55 w' w.heap.size (fun k_ => (w.heap.size ≤ k_) ∧ some k_ ≠ (.slice (some ad135) t130.length co6 : Value).ownBlock ∧ some k_ ≠ (s_.2.2 : Value).ownBlock ∧ k_ ≠ gb129 ∧ k_ ≠ gb134) s_.2.1 y139) ∧ (Kd.R k61 61 w' w.heap.size (fun k_ => (w.heap.size ≤ k_)) s_.2.2 y142) ∧ (w'.heap[gb129]? = some (.cells #[.slice none 0 0, .slice none 0 0, .int .i64 0] 25 (0, 0))) ∧ (w'.heap[gb134]? = some (.cells #[.slice (some ad135) t130.length co6, .int .i64 t133] 34 (0, 0))) ∧ (Below w.heap.size w w')) ?_ ?_
  rotate_left
  ·intro hCont
   refine two_ (i := 5) (j := 11) (Ni := some 8) (Nj := some 14) (zb 14 1855) (zb 14 3871) rfl rfl rfl rfl (two_of HT_.out (by kernel_rfl)) (by decide) (by decide) (fun K hK => ?_) (fun K hK => ?_)
   ·skip
    refine Kd.N_lit_step k58 _ 58 ?hg (N' := 8) ?hd (xs := ([(⟨1, false, (⟨(rd_T38 t130 0).f0, (rd_T38 t130 0).f1, (rd_T38 t130 0).f2, (rd_T38 t130 0).f3, (rd_T38 t130 0).f4⟩ : S38)⟩ : S58)] : List (S58))) (inner := [.int .i64 1, .bool false, .int .i64 ((rd_T38 t130 0).f0), .int .i64 ((rd_T38 t130 0).f1), .int .i64 ((rd_T38 t130 0).f2), .string ((rd_T38 t130 0).f3), .slice A135_4 ((rd_T38 t130 0).f4).length c135_4]) (ok := (fun k_ => (w.heap.size ≤ k_) ∧ some k_ ≠ (.slice (some ad135) t130.length co6 : Value).ownBlock ∧ k_ ≠ gb129 ∧ k_ ≠ gb134)) (okp := (fun k_ => (w.heap.size ≤ k_) ∧ some k_ ≠ (.slice (some ad135) t130.length co6 : Value).ownBlock ∧ k_ ≠ gb129 ∧ k_ ≠ gb134)) ?hr ?hp (fun _ hk => hk) ((show ∀ k_, w10.heap.size ≤ k_ → (fun k_ => (w.heap.size ≤ k_) ∧ some k_ ≠ (.slice (some ad135) t130.length co6 : Value).ownBlock ∧ k_ ≠ gb129 ∧ k_ ≠ gb134) k_ from fun k_ hk => ⟨(Nat.le_trans (below_size (zrd2 HB.out GE129.out GE134.out)) hk), Kd.fresh' (Kd.N_lt (zrN HO132.out)) k_ hk, Kd.freshB (g := gb129) (o := .cells #[.slice none 0 0, .slice none 0 0, .int .i64 0] 25 (0, 0)) (zrb BK129.out) k_ hk, Kd.freshB (g := gb134) (o := .cells #[.slice (some ad135) t130.length co6, .int .i64 t133] 34 (0, 0)) (zrb BK134.out) k_ hk⟩) _ (Nat.le_refl _)) (Below.refl _ _) (Nat.le_refl _) (by simp) ?_; (case hd => rfl); (case hg => rfl); (case hr => exact zrr); (case hp => exact (Reps.c7 (show Kd.FK k58 _ _ (⟨1, false, (⟨(rd_T38 t130 0).f0, (rd_T38 t130 0).f1, (rd_T38 t130 0).f2, (rd_T38 t130 0).f3, (rd_T38 t130 0).f4⟩ : S38)⟩ : S58) [.int .i64 1, .bool false, .int .i64 ((rd_T38 t130 0).f0), .int .i64 ((rd_T38 t130 0).f1), .int .i64 ((rd_T38 t130 0).f2), .string ((rd_T38 t130 0).f3), .slice A135_4 ((rd_T38 t130 0).f4).length c135_4] from (k58_mkF _ _ (⟨1, false, (⟨(rd_T38 t130 0).f0, (rd_T38 t130 0).f1, (rd_T38 t130 0).f2, (rd_T38 t130 0).f3, (rd_T38 t130 0).f4⟩ : S38)⟩ : S58) (Kd.V_reads' (Kd.V_mono (ok' := (fun k_ => (w.heap.size ≤ k_) ∧ some k_ ≠ (.slice (some ad135) t130.length co6 : Value).ownBlock ∧ k_ ≠ gb129 ∧ k_ ≠ gb134)) (HL135_4.out) (fun k_ hk => ⟨hk.1.1, ⟨hk.2, ⟨hk.1.2.1, hk.1.2.2⟩⟩⟩))).2.1 (Kd.V_F (Kd.V_mono (ok' := (fun k_ => (w.heap.size ≤ k_) ∧ some k_ ≠ (.slice (some ad135) t130.length co6 : Value).ownBlock ∧ k_ ≠ gb129 ∧ k_ ≠ gb134)) (HL135_4.out) (fun k_ hk => ⟨hk.1.1, ⟨hk.2, ⟨hk.1.2.1, hk.1.2.2⟩⟩⟩))))) (Reps.none _ _)))
    intro v137 w11 ho12 hb hg_ hnew_
    have HS2_ := (hb.cell (World.block_lt_of_cell? _ _ (hHeld.2.2.1))).trans (hHeld.2.2.1)
    have HS3_ := (hb.cell (World.block_lt_of_cell? _ _ (hHeld.2.2.2.1))).trans (hHeld.2.2.2.1)
    have HS4_ := (hb.cell (World.block_lt_of_cell? _ _ (hHeld.2.2.2.2.1))).trans (hHeld.2.2.2.2.1)
    have HS5_ := (hb.cell (World.block_lt_of_cell? _ _ (hHeld.2.2.2.2.2.1))).trans (hHeld.2.2.2.2.2.1)
    have HS6_ := (hb.cell (World.block_lt_of_cell? _ _ (hHeld.2.2.2.2.2.2))).trans (hHeld.2.2.2.2.2.2)
    clear hg_ hnew_
    (first | rw [← Ny136.out] at ho12 | (simp only [Int.reduceToNat] at ho12; rw [← Ny136.out] at ho12))
    have n0_ := zqj (Kd.N_elder' (zrN HO132.out) (Kd.N_base ho12) hb)
    have n1_ := zqj (Kd.V_elder' (zrV HL135_4.out) (Kd.N_base ho12) hb)
    have n2_ := zqj (Kd.N_lower ho12 (below_size (zrd2 HB.out GE129.out GE134.out)))
    have n3_ := zqj (blk_below (g := gb129) (o := .cells #[.slice none 0 0, .slice none 0 0, .int .i64 0] 25 (0, 0)) (zrb BK129.out) hb)
    have n4_ := zqj (blk_below (g := gb134) (o := .cells #[.slice (some ad135) t130.length co6, .int .i64 t133] 34 (0, 0)) (zrb BK134.out) hb)
    have n5_ := zqj (Kd.C_below (by repeat (first | (with_reducible exact HR135_4.out) | (with_reducible refine Kd.C_alloc ?_ _) | (with_reducible refine Kd.C_drewN ?_ _) | (with_reducible refine Kd.C_drew ?_) | exact HR135_4.out | exact (Kd.V_reads' HL135_4.out).2.2)) hb)
    have n6_ := zqj (below_step (zrd2 HB.out GE129.out GE134.out) hb)
    (clear HO132; clear HL135_4; clear BK129; clear BK134; clear HR135_4; clear HB; have HO132 := n0_; have HL135_4 := n1_; have HO138 := n2_; have BK129 := n3_; have BK134 := n4_; have HR135_4 := n5_; have HB := n6_; clear n0_ n1_ n2_ n3_ n4_ n5_ n6_; clear hb ho12)
    obtain ⟨Ao13, co13, eo13⟩ := Kd.N_slice HO138.out
    (first | subst eo13 | (injection eo13 with f1_ f2_ f3_; have f4_ := f1_.symm; have f5_ := f3_.symm; clear f1_ f2_ f3_; subst f4_; subst f5_))
    refine hK.out _ _ ⟨(blk_cell BK134.out 0).trans rfl, (blk_cell BK134.out 1).trans rfl, HS2_, HS3_, HS4_, HS5_, HS6_⟩ (fun hHeld => ?_)
    clear hK K
    refine norm_ (a' := ?_) ?_ ?_
    rotate_left
    ·show Act.put _ (some 8) _ = _
     simp only [Act.put, zqk, zql, zqm, i64_w, i32_w]
     rfl
    refine zp 6 9 (zb 14 1919) HT_.out ?_
    refine two_ (i := 7) (j := 11) (Ni := some 10) (Nj := some 14) (zb 14 2047) (zb 14 3967) rfl rfl rfl rfl (two_of HT_.out (by kernel_rfl)) (by decide) (by decide) (fun K hK => ?_) (fun K hK => ?_)
    ·skip
     refine Kd.N_lit_step k55 _ 55 ?hg (N' := 10) ?hd (xs := ([(⟨1, y136⟩ : S55)] : List (S55))) (inner := [.int .i64 1, .slice Ao13 y136.length co13]) (ok := (fun k_ => (w.heap.size ≤ k_) ∧ some k_ ≠ (.slice (some ad135) t130.length co6 : Value).ownBlock ∧ k_ ≠ gb129 ∧ k_ ≠ gb134)) (okp := (fun k_ => (w.heap.size ≤ k_) ∧ some k_ ≠ (.slice (some ad135) t130.length co6 : Value).ownBlock ∧ k_ ≠ gb129 ∧ k_ ≠ gb134)) ?hr ?hp (fun _ hk => hk) ((show ∀ k_, w11.heap.size ≤ k_ → (fun k_ => (w.heap.size ≤ k_) ∧ some k_ ≠ (.slice (some ad135) t130.length co6 : Value).ownBlock ∧ k_ ≠ gb129 ∧ k_ ≠ gb134) k_ from fun k_ hk => ⟨(Nat.le_trans (below_size (zrd2 HB.out GE129.out GE134.out)) hk), Kd.fresh' (Kd.N_lt (zrN HO132.out)) k_ hk, Kd.freshB (g := gb129) (o := .cells #[.slice none 0 0, .slice none 0 0, .int .i64 0] 25 (0, 0)) (zrb BK129.out) k_ hk, Kd.freshB (g := gb134) (o := .cells #[.slice (some ad135) t130.length co6, .int .i64 t133] 34 (0, 0)) (zrb BK134.out) k_ hk⟩) _ (Nat.le_refl _)) (Below.refl _ _) (Nat.le_refl _) (by simp) ?_; (case hd => rfl); (case hg => rfl); (case hr => exact zrr); (case hp => exact (Reps.c2 (show Kd.FK k55 _ _ (⟨1, y136⟩ : S55) [.int .i64 1, .slice Ao13 y136.length co13] from (k55_mkF _ _ (⟨1, y136⟩ : S55) (Kd.N_reads' (Kd.N_mono (ok' := (fun k_ => (w.heap.size ≤ k_) ∧ some k_ ≠ (.slice (some ad135) t130.length co6 : Value).ownBlock ∧ k_ ≠ gb129 ∧ k_ ≠ gb134)) (HO138.out) (fun k_ hk => ⟨hk.1, ⟨hk.2.1, ⟨hk.2.2.1, hk.2.2.2⟩⟩⟩))).2.1 (Kd.N_F (Kd.N_mono (ok' := (fun k_ => (w.heap.size ≤ k_) ∧ some k_ ≠ (.slice (some ad135) t130.length co6 : Value).ownBlock ∧ k_ ≠ gb129 ∧ k_ ≠ gb134)) (HO138.out) (fun k_ hk => ⟨hk.1, ⟨hk.2.1, ⟨hk.2.2.1, hk.2.2.2⟩⟩⟩))))) (Reps.none _ _)))
     intro v140 w14 ho15 hb hg_ hnew_
     have HS2_ := (hb.cell (World.block_lt_of_cell? _ _ (hHeld.2.2.1))).trans (hHeld.2.2.1)
     have HS3_ := (hb.cell (World.block_lt_of_cell? _ _ (hHeld.2.2.2.1))).trans (hHeld.2.2.2.1)
     have HS4_ := (hb.cell (World.block_lt_of_cell? _ _ (hHeld.2.2.2.2.1))).trans (hHeld.2.2.2.2.1)
     have HS5_ := (hb.cell (World.block_lt_of_cell? _ _ (hHeld.2.2.2.2.2.1))).trans (hHeld.2.2.2.2.2.1)
     have HS6_ := (hb.cell (World.block_lt_of_cell? _ _ (hHeld.2.2.2.2.2.2))).trans (hHeld.2.2.2.2.2.2)
     clear hg_ hnew_
     (first | rw [← Ny139.out] at ho15 | (simp only [Int.reduceToNat] at ho15; rw [← Ny139.out] at ho15))
     have n0_ := zqj (Kd.N_elder' (zrN HO132.out) (Kd.N_base ho15) hb)
     have n1_ := zqj (Kd.V_elder' (zrV HL135_4.out) (Kd.N_base ho15) hb)
     have n2_ := zqj (Kd.N_lower ho15 (below_size (zrd2 HB.out GE129.out GE134.out)))
     have n3_ := zqj (blk_below (g := gb129) (o := .cells #[.slice none 0 0, .slice none 0 0, .int .i64 0] 25 (0, 0)) (zrb BK129.out) hb)
     have n4_ := zqj (blk_below (g := gb134) (o := .cells #[.slice (some ad135) t130.length co6, .int .i64 t133] 34 (0, 0)) (zrb BK134.out) hb)
     have n5_ := zqj (Kd.C_below (by repeat (first | (with_reducible exact HR135_4.out) | (with_reducible refine Kd.C_alloc ?_ _) | (with_reducible refine Kd.C_drewN ?_ _) | (with_reducible refine Kd.C_drew ?_) | exact HR135_4.out | exact (Kd.V_reads' HL135_4.out).2.2)) hb)
     have n6_ := zqj (below_step (zrd2 HB.out GE129.out GE134.out) hb)
     (clear HO132; clear HL135_4; clear BK129; clear BK134; clear HR135_4; clear HB; clear HO138; have HO132 := n0_; have HL135_4 := n1_; have HO141 := n2_; have BK129 := n3_; have BK134 := n4_; have HR135_4 := n5_; have HB := n6_; clear n0_ n1_ n2_ n3_ n4_ n5_ n6_; clear hb ho15)
     refine hK.out _ _ ⟨(blk_cell BK134.out 0).trans rfl, (blk_cell BK134.out 1).trans rfl, HS2_, HS3_, HS4_, HS5_, HS6_⟩ (fun hHeld => ?_)
     clear hK K
     refine norm_ (a' := ?_) ?_ ?_
     rotate_left
     ·show Act.put _ (some 10) _ = _
      simp only [Act.put, zqk, zql, zqm, i64_w, i32_w]
      rfl
     refine one_ (i := 11) (N := some 14) (zb 14 4095) rfl rfl (one_of HT_.out (by kernel_rfl)) (by decide) (fun K hK => ?_)
     refine Kd.R_lit_step k61 _ 61 ?hg (N := 14) ?hd (xs := ([(⟨1, t133⟩ : S61)] : List (S61))) (inner := [.int .i64 1, .int .i64 t133]) (ok := fun _ => True) (okp := fun _ => True) ?hr ?hp (fun _ hk => hk) trivial (Below.refl _ _) (Nat.le_refl _) (by simp) ?_; (case hd => rfl); (case hg => rfl); (case hr => exact zrr); (case hp => exact (Reps.c2 (show Kd.M k61 _ _ _ (⟨1, t133⟩ : S61) [.int .i64 1, .int .i64 t133] from (k61_mkM _ _ _ (⟨1, t133⟩ : S61) )) (Reps.none _ _)))
     intro v143 w16 ho17 hb hg_ hnew_
     have HS2_ := (hb.cell (World.block_lt_of_cell? _ _ (hHeld.2.2.1))).trans (hHeld.2.2.1)
     have HS3_ := (hb.cell (World.block_lt_of_cell? _ _ (hHeld.2.2.2.1))).trans (hHeld.2.2.2.1)
     have HS4_ := (hb.cell (World.block_lt_of_cell? _ _ (hHeld.2.2.2.2.1))).trans (hHeld.2.2.2.2.1)
     have HS5_ := (hb.cell (World.block_lt_of_cell? _ _ (hHeld.2.2.2.2.2.1))).trans (hHeld.2.2.2.2.2.1)
     have HS6_ := (hb.cell (World.block_lt_of_cell? _ _ (hHeld.2.2.2.2.2.2))).trans (hHeld.2.2.2.2.2.2)
     clear hg_ hnew_
     (first | rw [← Ny142.out] at ho17 | (simp only [Int.reduceToNat] at ho17; rw [← Ny142.out] at ho17))
     have n0_ := zqj (Kd.N_elder' (zrN HO132.out) (Kd.R_base ho17) hb)
     have n1_ := zqj (Kd.V_elder' (zrV HL135_4.out) (Kd.R_base ho17) hb)
     have n2_ := zqj (Kd.N_elder' (zrN HO141.out) (Kd.R_base ho17) hb)
     have n3_ := zqj (Kd.R_lower (Kd.R_newM (M := fun k_ => (w.heap.size ≤ k_)) ho17 (below_size (zrd2 HB.out GE129.out GE134.out)) (fun k_ h_ => h_)) (below_size (zrd2 HB.out GE129.out GE134.out)))
     have n4_ := zqj (blk_below (g := gb129) (o := .cells #[.slice none 0 0, .slice none 0 0, .int .i64 0] 25 (0, 0)) (zrb BK129.out) hb)
     have n5_ := zqj (blk_below (g := gb134) (o := .cells #[.slice (some ad135) t130.length co6, .int .i64 t133] 34 (0, 0)) (zrb BK134.out) hb)
     have n6_ := zqj (Kd.C_below (by repeat (first | (with_reducible exact HR135_4.out) | (with_reducible refine Kd.C_alloc ?_ _) | (with_reducible refine Kd.C_drewN ?_ _) | (with_reducible refine Kd.C_drew ?_) | exact HR135_4.out | exact (Kd.V_reads' HL135_4.out).2.2)) hb)
     have n7_ := zqj (below_step (zrd2 HB.out GE129.out GE134.out) hb)
     (clear HO132; clear HL135_4; clear HO141; clear BK129; clear BK134; clear HR135_4; clear HB; have HO132 := n0_; have HL135_4 := n1_; have HO141 := n2_; have HO144 := n3_; have BK129 := n4_; have BK134 := n5_; have HR135_4 := n6_; have HB := n7_; clear n0_ n1_ n2_ n3_ n4_ n5_ n6_ n7_; clear hb ho17)
     obtain ⟨Ao18, co18, eo18⟩ := Kd.R_slice HO144.out
     (first | subst eo18 | (injection eo18 with f1_ f2_ f3_; have f4_ := f1_.symm; have f5_ := f3_.symm; clear f1_ f2_ f3_; subst f4_; subst f5_))
     obtain ⟨Ao19, co19, eo19⟩ := Kd.N_slice HO141.out
     (first | subst eo19 | (injection eo19 with f1_ f2_ f3_; have f4_ := f1_.symm; have f5_ := f3_.symm; clear f1_ f2_ f3_; subst f4_; subst f5_))
     refine hK.out _ _ ⟨(blk_cell BK134.out 0).trans rfl, (blk_cell BK134.out 1).trans rfl, HS2_, HS3_, HS4_, HS5_, HS6_⟩ (fun hHeld => ?_)
     clear hK K
     refine norm_ (a' := ?_) ?_ ?_
     rotate_left
     ·show Act.put _ (some 14) _ = _
      simp only [Act.put, zqk, zql, zqm, i64_w, i32_w]
      rfl
     exact norm_ (by simp only [putAll, Act.put, zqk, zql, zqm]) (hCont (.slice Ao13 y136.length co13, .slice Ao19 y139.length co19, .slice Ao18 y142.length co18) _ ⟨hHeld, (by (with_reducible repeat (first | apply Kd.V_alloc | apply Kd.V_drewN | apply Kd.V_drew)); exact Kd.V_mono HL135_4.out (fun _ hk => ⟨hk.1.1.1.1.1, ⟨hk.1.1.1.2, ⟨hk.1.2, ⟨hk.2, ⟨hk.1.1.1.1.2.1, hk.1.1.1.1.2.2⟩⟩⟩⟩⟩)), (by (with_reducible repeat (first | apply Kd.N_alloc | apply Kd.N_drewN | apply Kd.N_drew)); exact Kd.N_mono HO132.out (fun _ hk => ⟨hk.1.1.1.1, ⟨hk.1.2, ⟨hk.2, ⟨hk.1.1.1.2.1, hk.1.1.1.2.2⟩⟩⟩⟩)), (by (with_reducible repeat (first | apply Kd.N_alloc | apply Kd.N_drewN | apply Kd.N_drew)); exact Kd.N_mono HO141.out (fun _ hk => ⟨hk.1.1, ⟨hk.1.2.1, ⟨hk.2, ⟨hk.1.2.2.1, hk.1.2.2.2⟩⟩⟩⟩)), (by (with_reducible repeat (first | apply Kd.R_alloc | apply Kd.R_drewN | apply Kd.R_drew)); exact Kd.R_mono HO144.out (fun _ hk => hk.1)), (zrb BK129.out), (zrb BK134.out), (zrd2 HB.out GE129.out GE134.out)⟩)
    ·skip
     refine Kd.R_lit_step k61 _ 61 ?hg (N := 14) ?hd (xs := ([(⟨1, t133⟩ : S61)] : List (S61))) (inner := [.int .i64 1, .int .i64 t133]) (ok := fun _ => True) (okp := fun _ => True) ?hr ?hp (fun _ hk => hk) trivial (Below.refl _ _) (Nat.le_refl _) (by simp) ?_; (case hd => rfl); (case hg => rfl); (case hr => exact zrr); (case hp => exact (Reps.c2 (show Kd.M k61 _ _ _ (⟨1, t133⟩ : S61) [.int .i64 1, .int .i64 t133] from (k61_mkM _ _ _ (⟨1, t133⟩ : S61) )) (Reps.none _ _)))
     intro v143 w14 ho15 hb hg_ hnew_
     have HS2_ := (hb.cell (World.block_lt_of_cell? _ _ (hHeld.2.2.1))).trans (hHeld.2.2.1)
     have HS3_ := (hb.cell (World.block_lt_of_cell? _ _ (hHeld.2.2.2.1))).trans (hHeld.2.2.2.1)
     have HS4_ := (hb.cell (World.block_lt_of_cell? _ _ (hHeld.2.2.2.2.1))).trans (hHeld.2.2.2.2.1)
     have HS5_ := (hb.cell (World.block_lt_of_cell? _ _ (hHeld.2.2.2.2.2.1))).trans (hHeld.2.2.2.2.2.1)
     have HS6_ := (hb.cell (World.block_lt_of_cell? _ _ (hHeld.2.2.2.2.2.2))).trans (hHeld.2.2.2.2.2.2)
     clear hg_ hnew_
     (first | rw [← Ny142.out] at ho15 | (simp only [Int.reduceToNat] at ho15; rw [← Ny142.out] at ho15))
     have n0_ := zqj (Kd.N_elder' (zrN HO132.out) (Kd.R_base ho15) hb)
     have n1_ := zqj (Kd.V_elder' (zrV HL135_4.out) (Kd.R_base ho15) hb)
     have n2_ := zqj (Kd.N_elder' (zrN HO138.out) (Kd.R_base ho15) hb)
     have n3_ := zqj (Kd.R_lower (Kd.R_newM (M := fun k_ => (w.heap.size ≤ k_)) ho15 (below_size (zrd2 HB.out GE129.out GE134.out)) (fun k_ h_ => h_)) (below_size (zrd2 HB.out GE129.out GE134.out)))
     have n4_ := zqj (blk_below (g := gb129) (o := .cells #[.slice none 0 0, .slice none 0 0, .int .i64 0] 25 (0, 0)) (zrb BK129.out) hb)
     have n5_ := zqj (blk_below (g := gb134) (o := .cells #[.slice (some ad135) t130.length co6, .int .i64 t133] 34 (0, 0)) (zrb BK134.out) hb)
     have n6_ := zqj (Kd.C_below (by repeat (first | (with_reducible exact HR135_4.out) | (with_reducible refine Kd.C_alloc ?_ _) | (with_reducible refine Kd.C_drewN ?_ _) | (with_reducible refine Kd.C_drew ?_) | exact HR135_4.out | exact (Kd.V_reads' HL135_4.out).2.2)) hb)
     have n7_ := zqj (below_step (zrd2 HB.out GE129.out GE134.out) hb)
     (clear HO132; clear HL135_4; clear HO138; clear BK129; clear BK134; clear HR135_4; clear HB; have HO132 := n0_; have HL135_4 := n1_; have HO138 := n2_; have HO144 := n3_; have BK129 := n4_; have BK134 := n5_; have HR135_4 := n6_; have HB := n7_; clear n0_ n1_ n2_ n3_ n4_ n5_ n6_ n7_; clear hb ho15)
     refine hK.out _ _ ⟨(blk_cell BK134.out 0).trans rfl, (blk_cell BK134.out 1).trans rfl, HS2_, HS3_, HS4_, HS5_, HS6_⟩ (fun hHeld => ?_)
     clear hK K
     refine norm_ (a' := ?_) ?_ ?_
     rotate_left
     ·show Act.put _ (some 14) _ = _
      simp only [Act.put, zqk, zql, zqm, i64_w, i32_w]
      rfl
     refine one_ (i := 7) (N := some 10) (zb 14 4095) rfl rfl (one_of HT_.out (by kernel_rfl)) (by decide) (fun K hK => ?_)
     refine Kd.N_lit_step k55 _ 55 ?hg (N' := 10) ?hd (xs := ([(⟨1, y136⟩ : S55)] : List (S55))) (inner := [.int .i64 1, .slice Ao13 y136.length co13]) (ok := (fun k_ => (w.heap.size ≤ k_) ∧ some k_ ≠ (.slice (some ad135) t130.length co6 : Value).ownBlock ∧ some k_ ≠ (v143 : Value).ownBlock ∧ k_ ≠ gb129 ∧ k_ ≠ gb134)) (okp := (fun k_ => (w.heap.size ≤ k_) ∧ some k_ ≠ (.slice (some ad135) t130.length co6 : Value).ownBlock ∧ some k_ ≠ (v143 : Value).ownBlock ∧ k_ ≠ gb129 ∧ k_ ≠ gb134)) ?hr ?hp (fun _ hk => hk) ((show ∀ k_, w14.heap.size ≤ k_ → (fun k_ => (w.heap.size ≤ k_) ∧ some k_ ≠ (.slice (some ad135) t130.length co6 : Value).ownBlock ∧ some k_ ≠ (v143 : Value).ownBlock ∧ k_ ≠ gb129 ∧ k_ ≠ gb134) k_ from fun k_ hk => ⟨(Nat.le_trans (below_size (zrd2 HB.out GE129.out GE134.out)) hk), Kd.fresh' (Kd.N_lt (zrN HO132.out)) k_ hk, Kd.fresh' (Kd.R_lt (zrR HO144.out)) k_ hk, Kd.freshB (g := gb129) (o := .cells #[.slice none 0 0, .slice none 0 0, .int .i64 0] 25 (0, 0)) (zrb BK129.out) k_ hk, Kd.freshB (g := gb134) (o := .cells #[.slice (some ad135) t130.length co6, .int .i64 t133] 34 (0, 0)) (zrb BK134.out) k_ hk⟩) _ (Nat.le_refl _)) (Below.refl _ _) (Nat.le_refl _) (by simp) ?_; (case hd => rfl); (case hg => rfl); (case hr => exact zrr); (case hp => exact (Reps.c2 (show Kd.FK k55 _ _ (⟨1, y136⟩ : S55) [.int .i64 1, .slice Ao13 y136.length co13] from (k55_mkF _ _ (⟨1, y136⟩ : S55) (Kd.N_reads' (Kd.N_mono (ok' := (fun k_ => (w.heap.size ≤ k_) ∧ some k_ ≠ (.slice (some ad135) t130.length co6 : Value).ownBlock ∧ some k_ ≠ (v143 : Value).ownBlock ∧ k_ ≠ gb129 ∧ k_ ≠ gb134)) (HO138.out) (fun k_ hk => ⟨hk.1.1, ⟨hk.1.2.1, ⟨hk.2, ⟨hk.1.2.2.1, hk.1.2.2.2⟩⟩⟩⟩))).2.1 (Kd.N_F (Kd.N_mono (ok' := (fun k_ => (w.heap.size ≤ k_) ∧ some k_ ≠ (.slice (some ad135) t130.length co6 : Value).ownBlock ∧ some k_ ≠ (v143 : Value).ownBlock ∧ k_ ≠ gb129 ∧ k_ ≠ gb134)) (HO138.out) (fun k_ hk => ⟨hk.1.1, ⟨hk.1.2.1, ⟨hk.2, ⟨hk.1.2.2.1, hk.1.2.2.2⟩⟩⟩⟩))))) (Reps.none _ _)))
     intro v140 w16 ho17 hb hg_ hnew_
     have HS2_ := (hb.cell (World.block_lt_of_cell? _ _ (hHeld.2.2.1))).trans (hHeld.2.2.1)
     have HS3_ := (hb.cell (World.block_lt_of_cell? _ _ (hHeld.2.2.2.1))).trans (hHeld.2.2.2.1)
     have HS4_ := (hb.cell (World.block_lt_of_cell? _ _ (hHeld.2.2.2.2.1))).trans (hHeld.2.2.2.2.1)
     have HS5_ := (hb.cell (World.block_lt_of_cell? _ _ (hHeld.2.2.2.2.2.1))).trans (hHeld.2.2.2.2.2.1)
     have HS6_ := (hb.cell (World.block_lt_of_cell? _ _ (hHeld.2.2.2.2.2.2))).trans (hHeld.2.2.2.2.2.2)
     clear hg_ hnew_
     (first | rw [← Ny139.out] at ho17 | (simp only [Int.reduceToNat] at ho17; rw [← Ny139.out] at ho17))
     have n0_ := zqj (Kd.N_elder' (zrN HO132.out) (Kd.N_base ho17) hb)
     have n1_ := zqj (Kd.V_elder' (zrV HL135_4.out) (Kd.N_base ho17) hb)
     have n2_ := zqj (Kd.R_below (zrR HO144.out) hb)
     have n3_ := zqj (Kd.N_lower ho17 (below_size (zrd2 HB.out GE129.out GE134.out)))
     have n4_ := zqj (blk_below (g := gb129) (o := .cells #[.slice none 0 0, .slice none 0 0, .int .i64 0] 25 (0, 0)) (zrb BK129.out) hb)
     have n5_ := zqj (blk_below (g := gb134) (o := .cells #[.slice (some ad135) t130.length co6, .int .i64 t133] 34 (0, 0)) (zrb BK134.out) hb)
     have n6_ := zqj (Kd.C_below (by repeat (first | (with_reducible exact HR135_4.out) | (with_reducible refine Kd.C_alloc ?_ _) | (with_reducible refine Kd.C_drewN ?_ _) | (with_reducible refine Kd.C_drew ?_) | exact HR135_4.out | exact (Kd.V_reads' HL135_4.out).2.2)) hb)
     have n7_ := zqj (below_step (zrd2 HB.out GE129.out GE134.out) hb)
     (clear HO132; clear HL135_4; clear HO144; clear BK129; clear BK134; clear HR135_4; clear HB; clear HO138; have HO132 := n0_; have HL135_4 := n1_; have HO144 := n2_; have HO141 := n3_; have BK129 := n4_; have BK134 := n5_; have HR135_4 := n6_; have HB := n7_; clear n0_ n1_ n2_ n3_ n4_ n5_ n6_ n7_; clear hb ho17)
     obtain ⟨Ao18, co18, eo18⟩ := Kd.R_slice HO144.out
     (first | subst eo18 | (injection eo18 with f1_ f2_ f3_; have f4_ := f1_.symm; have f5_ := f3_.symm; clear f1_ f2_ f3_; subst f4_; subst f5_))
     obtain ⟨Ao19, co19, eo19⟩ := Kd.N_slice HO141.out
     (first | subst eo19 | (injection eo19 with f1_ f2_ f3_; have f4_ := f1_.symm; have f5_ := f3_.symm; clear f1_ f2_ f3_; subst f4_; subst f5_))
     refine hK.out _ _ ⟨(blk_cell BK134.out 0).trans rfl, (blk_cell BK134.out 1).trans rfl, HS2_, HS3_, HS4_, HS5_, HS6_⟩ (fun hHeld => ?_)
     clear hK K
     refine norm_ (a' := ?_) ?_ ?_
     rotate_left
     ·show Act.put _ (some 10) _ = _
      simp only [Act.put, zqk, zql, zqm, i64_w, i32_w]
      rfl
     exact norm_ (by simp only [putAll, Act.put, zqk, zql, zqm]) (hCont (.slice Ao13 y136.length co13, .slice Ao19 y139.length co19, .slice Ao18 y142.length co18) _ ⟨hHeld, (by (with_reducible repeat (first | apply Kd.V_alloc | apply Kd.V_drewN | apply Kd.V_drew)); exact Kd.V_mono HL135_4.out (fun _ hk => ⟨hk.1.1.1.1.1, ⟨hk.1.1.1.2, ⟨hk.2, ⟨hk.1.2, ⟨hk.1.1.1.1.2.1, hk.1.1.1.1.2.2⟩⟩⟩⟩⟩)), (by (with_reducible repeat (first | apply Kd.N_alloc | apply Kd.N_drewN | apply Kd.N_drew)); exact Kd.N_mono HO132.out (fun _ hk => ⟨hk.1.1.1.1, ⟨hk.2, ⟨hk.1.2, ⟨hk.1.1.1.2.1, hk.1.1.1.2.2⟩⟩⟩⟩)), (zrN HO141.out), (by (with_reducible repeat (first | apply Kd.R_alloc | apply Kd.R_drewN | apply Kd.R_drew)); exact Kd.R_mono HO144.out (fun _ hk => hk.1)), (zrb BK129.out), (zrb BK134.out), (zrd2 HB.out GE129.out GE134.out)⟩)
   ·skip
    refine Kd.R_lit_step k61 _ 61 ?hg (N := 14) ?hd (xs := ([(⟨1, t133⟩ : S61)] : List (S61))) (inner := [.int .i64 1, .int .i64 t133]) (ok := fun _ => True) (okp := fun _ => True) ?hr ?hp (fun _ hk => hk) trivial (Below.refl _ _) (Nat.le_refl _) (by simp) ?_; (case hd => rfl); (case hg => rfl); (case hr => exact zrr); (case hp => exact (Reps.c2 (show Kd.M k61 _ _ _ (⟨1, t133⟩ : S61) [.int .i64 1, .int .i64 t133] from (k61_mkM _ _ _ (⟨1, t133⟩ : S61) )) (Reps.none _ _)))
    intro v143 w11 ho12 hb hg_ hnew_
    have HS2_ := (hb.cell (World.block_lt_of_cell? _ _ (hHeld.2.2.1))).trans (hHeld.2.2.1)
    have HS3_ := (hb.cell (World.block_lt_of_cell? _ _ (hHeld.2.2.2.1))).trans (hHeld.2.2.2.1)
    have HS4_ := (hb.cell (World.block_lt_of_cell? _ _ (hHeld.2.2.2.2.1))).trans (hHeld.2.2.2.2.1)
    have HS5_ := (hb.cell (World.block_lt_of_cell? _ _ (hHeld.2.2.2.2.2.1))).trans (hHeld.2.2.2.2.2.1)
    have HS6_ := (hb.cell (World.block_lt_of_cell? _ _ (hHeld.2.2.2.2.2.2))).trans (hHeld.2.2.2.2.2.2)
    clear hg_ hnew_
    (first | rw [← Ny142.out] at ho12 | (simp only [Int.reduceToNat] at ho12; rw [← Ny142.out] at ho12))
    have n0_ := zqj (Kd.N_elder' (zrN HO132.out) (Kd.R_base ho12) hb)
    have n1_ := zqj (Kd.V_elder' (zrV HL135_4.out) (Kd.R_base ho12) hb)
    have n2_ := zqj (Kd.R_lower (Kd.R_newM (M := fun k_ => (w.heap.size ≤ k_)) ho12 (below_size (zrd2 HB.out GE129.out GE134.out)) (fun k_ h_ => h_)) (below_size (zrd2 HB.out GE129.out GE134.out)))
    have n3_ := zqj (blk_below (g := gb129) (o := .cells #[.slice none 0 0, .slice none 0 0, .int .i64 0] 25 (0, 0)) (zrb BK129.out) hb)
    have n4_ := zqj (blk_below (g := gb134) (o := .cells #[.slice (some ad135) t130.length co6, .int .i64 t133] 34 (0, 0)) (zrb BK134.out) hb)
    have n5_ := zqj (Kd.C_below (by repeat (first | (with_reducible exact HR135_4.out) | (with_reducible refine Kd.C_alloc ?_ _) | (with_reducible refine Kd.C_drewN ?_ _) | (with_reducible refine Kd.C_drew ?_) | exact HR135_4.out | exact (Kd.V_reads' HL135_4.out).2.2)) hb)
    have n6_ := zqj (below_step (zrd2 HB.out GE129.out GE134.out) hb)
    (clear HO132; clear HL135_4; clear BK129; clear BK134; clear HR135_4; clear HB; have HO132 := n0_; have HL135_4 := n1_; have HO144 := n2_; have BK129 := n3_; have BK134 := n4_; have HR135_4 := n5_; have HB := n6_; clear n0_ n1_ n2_ n3_ n4_ n5_ n6_; clear hb ho12)
    refine hK.out _ _ ⟨(blk_cell BK134.out 0).trans rfl, (blk_cell BK134.out 1).trans rfl, HS2_, HS3_, HS4_, HS5_, HS6_⟩ (fun hHeld => ?_)
    clear hK K
    refine norm_ (a' := ?_) ?_ ?_
    rotate_left
    ·show Act.put _ (some 14) _ = _
     simp only [Act.put, zqk, zql, zqm, i64_w, i32_w]
     rfl
    refine one_ (i := 5) (N := some 8) (zb 14 3903) rfl rfl (one_of HT_.out (by kernel_rfl)) (by decide) (fun K hK => ?_)
    refine Kd.N_lit_step k58 _ 58 ?hg (N' := 8) ?hd (xs := ([(⟨1, false, (⟨(rd_T38 t130 0).f0, (rd_T38 t130 0).f1, (rd_T38 t130 0).f2, (rd_T38 t130 0).f3, (rd_T38 t130 0).f4⟩ : S38)⟩ : S58)] : List (S58))) (inner := [.int .i64 1, .bool false, .int .i64 ((rd_T38 t130 0).f0), .int .i64 ((rd_T38 t130 0).f1), .int .i64 ((rd_T38 t130 0).f2), .string ((rd_T38 t130 0).f3), .slice A135_4 ((rd_T38 t130 0).f4).length c135_4]) (ok := (fun k_ => (w.heap.size ≤ k_) ∧ some k_ ≠ (.slice (some ad135) t130.length co6 : Value).ownBlock ∧ some k_ ≠ (v143 : Value).ownBlock ∧ k_ ≠ gb129 ∧ k_ ≠ gb134)) (okp := (fun k_ => (w.heap.size ≤ k_) ∧ some k_ ≠ (.slice (some ad135) t130.length co6 : Value).ownBlock ∧ some k_ ≠ (v143 : Value).ownBlock ∧ k_ ≠ gb129 ∧ k_ ≠ gb134)) ?hr ?hp (fun _ hk => hk) ((show ∀ k_, w11.heap.size ≤ k_ → (fun k_ => (w.heap.size ≤ k_) ∧ some k_ ≠ (.slice (some ad135) t130.length co6 : Value).ownBlock ∧ some k_ ≠ (v143 : Value).ownBlock ∧ k_ ≠ gb129 ∧ k_ ≠ gb134) k_ from fun k_ hk => ⟨(Nat.le_trans (below_size (zrd2 HB.out GE129.out GE134.out)) hk), Kd.fresh' (Kd.N_lt (zrN HO132.out)) k_ hk, Kd.fresh' (Kd.R_lt (zrR HO144.out)) k_ hk, Kd.freshB (g := gb129) (o := .cells #[.slice none 0 0, .slice none 0 0, .int .i64 0] 25 (0, 0)) (zrb BK129.out) k_ hk, Kd.freshB (g := gb134) (o := .cells #[.slice (some ad135) t130.length co6, .int .i64 t133] 34 (0, 0)) (zrb BK134.out) k_ hk⟩) _ (Nat.le_refl _)) (Below.refl _ _) (Nat.le_refl _) (by simp) ?_; (case hd => rfl); (case hg => rfl); (case hr => exact zrr); (case hp => exact (Reps.c7 (show Kd.FK k58 _ _ (⟨1, false, (⟨(rd_T38 t130 0).f0, (rd_T38 t130 0).f1, (rd_T38 t130 0).f2, (rd_T38 t130 0).f3, (rd_T38 t130 0).f4⟩ : S38)⟩ : S58) [.int .i64 1, .bool false, .int .i64 ((rd_T38 t130 0).f0), .int .i64 ((rd_T38 t130 0).f1), .int .i64 ((rd_T38 t130 0).f2), .string ((rd_T38 t130 0).f3), .slice A135_4 ((rd_T38 t130 0).f4).length c135_4] from (k58_mkF _ _ (⟨1, false, (⟨(rd_T38 t130 0).f0, (rd_T38 t130 0).f1, (rd_T38 t130 0).f2, (rd_T38 t130 0).f3, (rd_T38 t130 0).f4⟩ : S38)⟩ : S58) (Kd.V_reads' (Kd.V_mono (ok' := (fun k_ => (w.heap.size ≤ k_) ∧ some k_ ≠ (.slice (some ad135) t130.length co6 : Value).ownBlock ∧ some k_ ≠ (v143 : Value).ownBlock ∧ k_ ≠ gb129 ∧ k_ ≠ gb134)) (HL135_4.out) (fun k_ hk => ⟨hk.1.1.1, ⟨hk.1.2, ⟨hk.2, ⟨hk.1.1.2.1, hk.1.1.2.2⟩⟩⟩⟩))).2.1 (Kd.V_F (Kd.V_mono (ok' := (fun k_ => (w.heap.size ≤ k_) ∧ some k_ ≠ (.slice (some ad135) t130.length co6 : Value).ownBlock ∧ some k_ ≠ (v143 : Value).ownBlock ∧ k_ ≠ gb129 ∧ k_ ≠ gb134)) (HL135_4.out) (fun k_ hk => ⟨hk.1.1.1, ⟨hk.1.2, ⟨hk.2, ⟨hk.1.1.2.1, hk.1.1.2.2⟩⟩⟩⟩))))) (Reps.none _ _)))
    intro v137 w13 ho14 hb hg_ hnew_
    have HS2_ := (hb.cell (World.block_lt_of_cell? _ _ (hHeld.2.2.1))).trans (hHeld.2.2.1)
    have HS3_ := (hb.cell (World.block_lt_of_cell? _ _ (hHeld.2.2.2.1))).trans (hHeld.2.2.2.1)
    have HS4_ := (hb.cell (World.block_lt_of_cell? _ _ (hHeld.2.2.2.2.1))).trans (hHeld.2.2.2.2.1)
    have HS5_ := (hb.cell (World.block_lt_of_cell? _ _ (hHeld.2.2.2.2.2.1))).trans (hHeld.2.2.2.2.2.1)
    have HS6_ := (hb.cell (World.block_lt_of_cell? _ _ (hHeld.2.2.2.2.2.2))).trans (hHeld.2.2.2.2.2.2)
    clear hg_ hnew_
    (first | rw [← Ny136.out] at ho14 | (simp only [Int.reduceToNat] at ho14; rw [← Ny136.out] at ho14))
    have n0_ := zqj (Kd.N_elder' (zrN HO132.out) (Kd.N_base ho14) hb)
    have n1_ := zqj (Kd.V_elder' (zrV HL135_4.out) (Kd.N_base ho14) hb)
    have n2_ := zqj (Kd.R_below (zrR HO144.out) hb)
    have n3_ := zqj (Kd.N_lower ho14 (below_size (zrd2 HB.out GE129.out GE134.out)))
    have n4_ := zqj (blk_below (g := gb129) (o := .cells #[.slice none 0 0, .slice none 0 0, .int .i64 0] 25 (0, 0)) (zrb BK129.out) hb)
    have n5_ := zqj (blk_below (g := gb134) (o := .cells #[.slice (some ad135) t130.length co6, .int .i64 t133] 34 (0, 0)) (zrb BK134.out) hb)
    have n6_ := zqj (Kd.C_below (by repeat (first | (with_reducible exact HR135_4.out) | (with_reducible refine Kd.C_alloc ?_ _) | (with_reducible refine Kd.C_drewN ?_ _) | (with_reducible refine Kd.C_drew ?_) | exact HR135_4.out | exact (Kd.V_reads' HL135_4.out).2.2)) hb)
    have n7_ := zqj (below_step (zrd2 HB.out GE129.out GE134.out) hb)
    (clear HO132; clear HL135_4; clear HO144; clear BK129; clear BK134; clear HR135_4; clear HB; have HO132 := n0_; have HL135_4 := n1_; have HO144 := n2_; have HO138 := n3_; have BK129 := n4_; have BK134 := n5_; have HR135_4 := n6_; have HB := n7_; clear n0_ n1_ n2_ n3_ n4_ n5_ n6_ n7_; clear hb ho14)
    obtain ⟨Ao15, co15, eo15⟩ := Kd.N_slice HO138.out
    (first | subst eo15 | (injection eo15 with f1_ f2_ f3_; have f4_ := f1_.symm; have f5_ := f3_.symm; clear f1_ f2_ f3_; subst f4_; subst f5_))
    refine hK.out _ _ ⟨(blk_cell BK134.out 0).trans rfl, (blk_cell BK134.out 1).trans rfl, HS2_, HS3_, HS4_, HS5_, HS6_⟩ (fun hHeld => ?_)
    clear hK K
    refine norm_ (a' := ?_) ?_ ?_
    rotate_left
    ·show Act.put _ (some 8) _ = _
     simp only [Act.put, zqk, zql, zqm, i64_w, i32_w]
     rfl
    refine zp 6 9 (zb 14 3967) HT_.out ?_
    refine one_ (i := 7) (N := some 10) (zb 14 4095) rfl rfl (one_of HT_.out (by kernel_rfl)) (by decide) (fun K hK => ?_)
    refine Kd.N_lit_step k55 _ 55 ?hg (N' := 10) ?hd (xs := ([(⟨1, y136⟩ : S55)] : List (S55))) (inner := [.int .i64 1, .slice Ao15 y136.length co15]) (ok := (fun k_ => (w.heap.size ≤ k_) ∧ some k_ ≠ (.slice (some ad135) t130.length co6 : Value).ownBlock ∧ some k_ ≠ (v143 : Value).ownBlock ∧ k_ ≠ gb129 ∧ k_ ≠ gb134)) (okp := (fun k_ => (w.heap.size ≤ k_) ∧ some k_ ≠ (.slice (some ad135) t130.length co6 : Value).ownBlock ∧ some k_ ≠ (v143 : Value).ownBlock ∧ k_ ≠ gb129 ∧ k_ ≠ gb134)) ?hr ?hp (fun _ hk => hk) ((show ∀ k_, w13.heap.size ≤ k_ → (fun k_ => (w.heap.size ≤ k_) ∧ some k_ ≠ (.slice (some ad135) t130.length co6 : Value).ownBlock ∧ some k_ ≠ (v143 : Value).ownBlock ∧ k_ ≠ gb129 ∧ k_ ≠ gb134) k_ from fun k_ hk => ⟨(Nat.le_trans (below_size (zrd2 HB.out GE129.out GE134.out)) hk), Kd.fresh' (Kd.N_lt (zrN HO132.out)) k_ hk, Kd.fresh' (Kd.R_lt (zrR HO144.out)) k_ hk, Kd.freshB (g := gb129) (o := .cells #[.slice none 0 0, .slice none 0 0, .int .i64 0] 25 (0, 0)) (zrb BK129.out) k_ hk, Kd.freshB (g := gb134) (o := .cells #[.slice (some ad135) t130.length co6, .int .i64 t133] 34 (0, 0)) (zrb BK134.out) k_ hk⟩) _ (Nat.le_refl _)) (Below.refl _ _) (Nat.le_refl _) (by simp) ?_; (case hd => rfl); (case hg => rfl); (case hr => exact zrr); (case hp => exact (Reps.c2 (show Kd.FK k55 _ _ (⟨1, y136⟩ : S55) [.int .i64 1, .slice Ao15 y136.length co15] from (k55_mkF _ _ (⟨1, y136⟩ : S55) (Kd.N_reads' (Kd.N_mono (ok' := (fun k_ => (w.heap.size ≤ k_) ∧ some k_ ≠ (.slice (some ad135) t130.length co6 : Value).ownBlock ∧ some k_ ≠ (v143 : Value).ownBlock ∧ k_ ≠ gb129 ∧ k_ ≠ gb134)) (HO138.out) (fun k_ hk => ⟨hk.1, ⟨hk.2.1, ⟨hk.2.2.1, ⟨hk.2.2.2.1, hk.2.2.2.2⟩⟩⟩⟩))).2.1 (Kd.N_F (Kd.N_mono (ok' := (fun k_ => (w.heap.size ≤ k_) ∧ some k_ ≠ (.slice (some ad135) t130.length co6 : Value).ownBlock ∧ some k_ ≠ (v143 : Value).ownBlock ∧ k_ ≠ gb129 ∧ k_ ≠ gb134)) (HO138.out) (fun k_ hk => ⟨hk.1, ⟨hk.2.1, ⟨hk.2.2.1, ⟨hk.2.2.2.1, hk.2.2.2.2⟩⟩⟩⟩))))) (Reps.none _ _)))
    intro v140 w16 ho17 hb hg_ hnew_
    have HS2_ := (hb.cell (World.block_lt_of_cell? _ _ (hHeld.2.2.1))).trans (hHeld.2.2.1)
    have HS3_ := (hb.cell (World.block_lt_of_cell? _ _ (hHeld.2.2.2.1))).trans (hHeld.2.2.2.1)
    have HS4_ := (hb.cell (World.block_lt_of_cell? _ _ (hHeld.2.2.2.2.1))).trans (hHeld.2.2.2.2.1)
    have HS5_ := (hb.cell (World.block_lt_of_cell? _ _ (hHeld.2.2.2.2.2.1))).trans (hHeld.2.2.2.2.2.1)
    have HS6_ := (hb.cell (World.block_lt_of_cell? _ _ (hHeld.2.2.2.2.2.2))).trans (hHeld.2.2.2.2.2.2)
    clear hg_ hnew_
    (first | rw [← Ny139.out] at ho17 | (simp only [Int.reduceToNat] at ho17; rw [← Ny139.out] at ho17))
    have n0_ := zqj (Kd.N_elder' (zrN HO132.out) (Kd.N_base ho17) hb)
    have n1_ := zqj (Kd.V_elder' (zrV HL135_4.out) (Kd.N_base ho17) hb)
    have n2_ := zqj (Kd.R_below (zrR HO144.out) hb)
    have n3_ := zqj (Kd.N_lower ho17 (below_size (zrd2 HB.out GE129.out GE134.out)))
    have n4_ := zqj (blk_below (g := gb129) (o := .cells #[.slice none 0 0, .slice none 0 0, .int .i64 0] 25 (0, 0)) (zrb BK129.out) hb)
    have n5_ := zqj (blk_below (g := gb134) (o := .cells #[.slice (some ad135) t130.length co6, .int .i64 t133] 34 (0, 0)) (zrb BK134.out) hb)
    have n6_ := zqj (Kd.C_below (by repeat (first | (with_reducible exact HR135_4.out) | (with_reducible refine Kd.C_alloc ?_ _) | (with_reducible refine Kd.C_drewN ?_ _) | (with_reducible refine Kd.C_drew ?_) | exact HR135_4.out | exact (Kd.V_reads' HL135_4.out).2.2)) hb)
    have n7_ := zqj (below_step (zrd2 HB.out GE129.out GE134.out) hb)
    (clear HO132; clear HL135_4; clear HO144; clear BK129; clear BK134; clear HR135_4; clear HB; clear HO138; have HO132 := n0_; have HL135_4 := n1_; have HO144 := n2_; have HO141 := n3_; have BK129 := n4_; have BK134 := n5_; have HR135_4 := n6_; have HB := n7_; clear n0_ n1_ n2_ n3_ n4_ n5_ n6_ n7_; clear hb ho17)
    obtain ⟨Ao18, co18, eo18⟩ := Kd.R_slice HO144.out
    (first | subst eo18 | (injection eo18 with f1_ f2_ f3_; have f4_ := f1_.symm; have f5_ := f3_.symm; clear f1_ f2_ f3_; subst f4_; subst f5_))
    obtain ⟨Ao19, co19, eo19⟩ := Kd.N_slice HO141.out
    (first | subst eo19 | (injection eo19 with f1_ f2_ f3_; have f4_ := f1_.symm; have f5_ := f3_.symm; clear f1_ f2_ f3_; subst f4_; subst f5_))
    refine hK.out _ _ ⟨(blk_cell BK134.out 0).trans rfl, (blk_cell BK134.out 1).trans rfl, HS2_, HS3_, HS4_, HS5_, HS6_⟩ (fun hHeld => ?_)
    clear hK K
    refine norm_ (a' := ?_) ?_ ?_
    rotate_left
    ·show Act.put _ (some 10) _ = _
     simp only [Act.put, zqk, zql, zqm, i64_w, i32_w]
     rfl
    exact norm_ (by simp only [putAll, Act.put, zqk, zql, zqm]) (hCont (.slice Ao15 y136.length co15, .slice Ao19 y139.length co19, .slice Ao18 y142.length co18) _ ⟨hHeld, (by (with_reducible repeat (first | apply Kd.V_alloc | apply Kd.V_drewN | apply Kd.V_drew)); exact Kd.V_mono HL135_4.out (fun _ hk => ⟨hk.1.1.1.1.1, ⟨hk.1.1.1.2, ⟨hk.2, ⟨hk.1.1.2, ⟨hk.1.1.1.1.2.1, hk.1.1.1.1.2.2⟩⟩⟩⟩⟩)), (by (with_reducible repeat (first | apply Kd.N_alloc | apply Kd.N_drewN | apply Kd.N_drew)); exact Kd.N_mono HO132.out (fun _ hk => ⟨hk.1.1.1.1, ⟨hk.2, ⟨hk.1.1.2, ⟨hk.1.1.1.2.1, hk.1.1.1.2.2⟩⟩⟩⟩)), (zrN HO141.out), (by (with_reducible repeat (first | apply Kd.R_alloc | apply Kd.R_drewN | apply Kd.R_drew)); exact Kd.R_mono HO144.out (fun _ hk => hk.1)), (zrb BK129.out), (zrb BK134.out), (zrd2 HB.out GE129.out GE134.out)⟩)
  rintro ⟨v137, v140, v143⟩ w20 ⟨hS_, h0_, h1_, h2_, h3_, h4_, h5_, h6_⟩
  have n0_ : Aside0 (Kd.V k91 91 w20 w.heap.size (fun k_ => (w.heap.size ≤ k_) ∧ some k_ ≠ (.slice (some ad135) t130.length co6 : Value).ownBlock ∧ some k_ ≠ (v140 : Value).ownBlock ∧ some k_ ≠ (v143 : Value).ownBlock ∧ k_ ≠ gb129 ∧ k_ ≠ gb134) (.slice A135_4 ((rd_T38 t130 0).f4).length c135_4) ((rd_T38 t130 0).f4)) := ⟨h0_⟩
  have n1_ : Aside0 (Kd.N k38 38 w20 w.heap.size (fun k_ => (w.heap.size ≤ k_) ∧ some k_ ≠ (v140 : Value).ownBlock ∧ some k_ ≠ (v143 : Value).ownBlock ∧ k_ ≠ gb129 ∧ k_ ≠ gb134) (.slice (some ad135) t130.length co6) t130) := ⟨h1_⟩
  have n2_ : Aside0 (Kd.N k55 55 w20 w.heap.size (fun k_ => (w.heap.size ≤ k_) ∧ some k_ ≠ (.slice (some ad135) t130.length co6 : Value).ownBlock ∧ some k_ ≠ (v143 : Value).ownBlock ∧ k_ ≠ gb129 ∧ k_ ≠ gb134) v140 y139) := ⟨h2_⟩
  have n3_ : Aside0 (Kd.R k61 61 w20 w.heap.size (fun k_ => (w.heap.size ≤ k_)) v143 y142) := ⟨h3_⟩
  have n4_ : Aside0 (w20.heap[gb129]? = some (.cells #[.slice none 0 0, .slice none 0 0, .int .i64 0] 25 (0, 0))) := ⟨h4_⟩
  have n5_ : Aside0 (w20.heap[gb134]? = some (.cells #[.slice (some ad135) t130.length co6, .int .i64 t133] 34 (0, 0))) := ⟨h5_⟩
  have n6_ : Aside0 (Below w.heap.size w w20) := ⟨h6_⟩
  (clear HO132; clear BK129; clear BK134; clear HB; clear h0_ h1_ h2_ h3_ h4_ h5_ h6_; have HL135_4 := n0_; have HO132 := n1_; have HO141 := n2_; have HO144 := n3_; have BK129 := n4_; have BK134 := n5_; have HB := n6_; clear n0_ n1_ n2_ n3_ n4_ n5_ n6_)
  have hHeld : w20.cell? ⟨gb134, 0, none⟩ = some (.slice (some ad135) t130.length co6) ∧ w20.cell? ⟨gb134, 1, none⟩ = some (.int .i64 t133) ∧ w20.cell? ad135 = some (.int .i64 ((rd_T38 t130 0).f0)) ∧ w20.cell? ⟨ad135.block, ad135.off + 1, none⟩ = some (.int .i64 ((rd_T38 t130 0).f1)) ∧ w20.cell? ⟨ad135.block, ad135.off + 2, none⟩ = some (.int .i64 ((rd_T38 t130 0).f2)) ∧ w20.cell? ⟨ad135.block, ad135.off + 3, none⟩ = some (.string ((rd_T38 t130 0).f3)) ∧ w20.cell? ⟨ad135.block, ad135.off + 4, none⟩ = some (.slice A135_4 ((rd_T38 t130 0).f4).length c135_4) := hS_
  obtain ⟨Ao21, co21, eo21⟩ := Kd.R_slice HO144.out
  (first | subst eo21 | (injection eo21 with f1_ f2_ f3_; have f4_ := f1_.symm; have f5_ := f3_.symm; clear f1_ f2_ f3_; subst f4_; subst f5_))
  obtain ⟨Ao22, co22, eo22⟩ := Kd.N_slice HO141.out
  (first | subst eo22 | (injection eo22 with f1_ f2_ f3_; have f4_ := f1_.symm; have f5_ := f3_.symm; clear f1_ f2_ f3_; subst f4_; subst f5_))
  refine norm_ (a' := ?_) ?_ ?_
  (rotate_left; · (simp only [putAll, Act.put, zqk, zql, zqm]; rfl))
  refine zp 12 15 (zb 14 8191) HT_.out ?_
  refine one_ (i := 13) (N := none) (zb 14 16383) rfl rfl (one_of HT_.out (by kernel_rfl)) (by decide) (fun K hK => ?_)
  have hs23 : w20.cell? ⟨gb129, 0, none⟩ = some (.slice none 0 0) := (blk_cell BK129.out 0).trans rfl
  have hfs23 := zqi BK129.out 0
  have hns23_1 := NB134_129.out
  have hms23_1 := NB129_134.out
  have hs24 : w20.cell? ⟨gb129, 1, none⟩ = some (.slice none 0 0) := (blk_cell BK129.out 1).trans rfl
  have hfs24 := zqi BK129.out 1
  have hns24_1 := NB134_129.out
  have hms24_1 := NB129_134.out
  have hs25 : w20.cell? ⟨gb129, 2, none⟩ = some (.int .i64 0) := (blk_cell BK129.out 2).trans rfl
  have hfs25 := zqi BK129.out 2
  have hns25_1 := NB134_129.out
  have hms25_1 := NB129_134.out
  refine skip_ (w1 := ?_) (by rfl) rfl ?_ ?_
  rotate_left
  ·go_simp
   rfl
  have NE0_ := Kd.own_blk (Kd.N_away HO132.out (fun _ hk => hk.2.2.2.1))
  refine hK.out _ _ ⟨(by rw [cell_far (a := ⟨gb134, _, none⟩) (p := ⟨gb129, _, none⟩) NB134_129.out, cell_far (a := ⟨gb134, _, none⟩) (p := ⟨gb129, _, none⟩) NB134_129.out, cell_far (a := ⟨gb134, _, none⟩) (p := ⟨gb129, _, none⟩) NB134_129.out]; exact hHeld.1), (by rw [cell_far (a := ⟨gb134, _, none⟩) (p := ⟨gb129, _, none⟩) NB134_129.out, cell_far (a := ⟨gb134, _, none⟩) (p := ⟨gb129, _, none⟩) NB134_129.out, cell_far (a := ⟨gb134, _, none⟩) (p := ⟨gb129, _, none⟩) NB134_129.out]; exact hHeld.2.1), (by rw [cell_far NE0_, cell_far NE0_, cell_far NE0_]; exact hHeld.2.2.1), (by rw [cell_far NE0_, cell_far NE0_, cell_far NE0_]; exact hHeld.2.2.2.1), (by rw [cell_far NE0_, cell_far NE0_, cell_far NE0_]; exact hHeld.2.2.2.2.1), (by rw [cell_far NE0_, cell_far NE0_, cell_far NE0_]; exact hHeld.2.2.2.2.2.1), (by rw [cell_far NE0_, cell_far NE0_, cell_far NE0_]; exact hHeld.2.2.2.2.2.2)⟩ (fun hHeld => ?_)
  clear hK K
  refine done_ (done_of HT_.out (by kernel_rfl)) ?_
  try go_wp2
  refine bodyPost_ret (results_cell_row rfl _ _ gb129 25 #[.slice Ao22 y139.length co22, .slice Ao21 y142.length co21, .int .i64 1] (0, 0) _ rfl (by (with_reducible repeat (first | refine zqa ?_ _ | refine zqb ?_ | refine zqc ?_ _)); refine blk_put (cs := #[.slice Ao22 y139.length co22, .slice Ao21 y142.length co21, .int .i64 0]) ?_ 2 _ rfl; (with_reducible repeat (first | refine zqa ?_ _ | refine zqb ?_ | refine zqc ?_ _)); refine blk_put (cs := #[.slice Ao22 y139.length co22, .slice none 0 0, .int .i64 0]) ?_ 1 _ rfl; (with_reducible repeat (first | refine zqa ?_ _ | refine zqb ?_ | refine zqc ?_ _)); refine blk_put (cs := #[.slice none 0 0, .slice none 0 0, .int .i64 0]) ?_ 0 _ rfl; (with_reducible repeat (first | refine zqa ?_ _ | refine zqb ?_ | refine zqc ?_ _)); exact BK129.out) Try.underlying25 rfl (by kernel_rfl)) rfl ?_
  exact ⟨_, _, zru, by (with_reducible repeat (first | apply Kd.N_alloc | apply Kd.N_drewN | apply Kd.N_drew)); exact Kd.N_mono (Kd.N_far (p := ⟨gb129, 2, none⟩) (Kd.N_far (p := ⟨gb129, 1, none⟩) (Kd.N_far (p := ⟨gb129, 0, none⟩) (Kd.N_mono HO141.out (fun k_ hk => (⟨hk, hk.2.2.2.1⟩ : _ ∧ k_ ≠ gb129))) (fun _ hk => hk.2) (.slice Ao22 y139.length co22)) (fun _ hk => hk.2) (.slice Ao21 y142.length co21)) (fun _ hk => hk.2) (.int .i64 1)) (fun _ hk => ⟨hk.1.1, hk.1.2.2.1⟩), by (with_reducible repeat (first | apply Kd.R_alloc | apply Kd.R_drewN | apply Kd.R_drew)); exact Kd.R_mono (Kd.R_far (p := ⟨gb129, 2, none⟩) (Kd.R_far (p := ⟨gb129, 1, none⟩) (Kd.R_far (p := ⟨gb129, 0, none⟩) (Kd.R_types HO144.out BK129.out (by decide)) (fun _ hk => hk.2) (.slice Ao22 y139.length co22)) (fun _ hk => hk.2) (.slice Ao21 y142.length co21)) (fun _ hk => hk.2) (.int .i64 1)) (fun _ hk => hk.1), by repeat (first | (with_reducible first | exact HB.out | apply zqg | apply zqe | apply zqf | refine zqd ?_ GE129.out | refine zqd ?_ GE134.out) | exact HB.out)⟩
 ·rw [if_neg c2] at H
  exact absurd H (by simp)
def copyholdlaw12_shown.f (k : Nat)  : Option (Bool) := (store_New.f).bind fun bt145 => ((store_View.f k bt145.1 bt145.2.1 bt145.2.2 1).bind fun bt153 => ((store_View.f k bt145.1 bt145.2.1 bt145.2.2 0).bind fun bt158 => (if (bt153.1.length : Int) = 1 then (if bt153.2 = 2 then (if (bt158.1.length : Int) = 0 then (if bt158.2 = 1 then ((store_Right.f bt145.1 bt145.2.1 bt145.2.2).bind fun t163 => (if t163 = true then ((store_Many.f k bt145.1 bt145.2.1 bt145.2.2).bind fun t164 => (some (t164 == 1))) else (none))) else (none)) else (none)) else (none)) else (none))))
theorem copyholdlaw12_shown.mono : ∀ k, LeO (copyholdlaw12_shown.f k ) (copyholdlaw12_shown.f (k + 1) ) := by
 intro  k
 unfold copyholdlaw12_shown.f
 repeat' first
   | (with_reducible exact store_Many.mono _ _ _ _)
   | (with_reducible exact store_View.mono _ _ _ _ _)
   | (with_reducible exact LeO.refl _)
   | (with_reducible exact LeO.none _)
   | (with_reducible refine LeO.ite ?_ ?_)
   | (with_reducible refine LeO.bind ?_ (fun _ => ?_))
   | exact store_Many.mono _ _ _ _
   | exact store_View.mono _ _ _ _ _
   | exact LeO.none _
   | refine LeO.ite ?_ ?_
   | refine LeO.bind ?_ (fun _ => ?_)
set_option maxHeartbeats 8000000 in
set_option maxRecDepth 100000 in
theorem copyholdlaw12_shown.calls (k : Nat)  (r : Bool) (w : World) (h : copyholdlaw12_shown.f k  = some r) :
  Calls Try.prog 8 #[] w fun e w' => e = .returned (.bool r) ∧ Below w.heap.size w w' := by
 have hu25 := Try.underlying25
 have hu34 := Try.underlying34
 have HB := zqj (Below.refl w.heap.size w)
 have H : ((store_New.f).bind fun bt145 => ((store_View.f k bt145.1 bt145.2.1 bt145.2.2 1).bind fun bt153 => ((store_View.f k bt145.1 bt145.2.1 bt145.2.2 0).bind fun bt158 => (if (bt153.1.length : Int) = 1 then (if bt153.2 = 2 then (if (bt158.1.length : Int) = 0 then (if bt158.2 = 1 then ((store_Right.f bt145.1 bt145.2.1 bt145.2.2).bind fun t163 => (if t163 = true then ((store_Many.f k bt145.1 bt145.2.1 bt145.2.2).bind fun t164 => (some (t164 == 1))) else (none))) else (none)) else (none)) else (none)) else (none))))) = some r := h
 clear h
 replace H := zqn H
 obtain ⟨⟨t145, t148, t151⟩, A10, H⟩ := H
 replace H : ((store_View.f k t145 t148 t151 1).bind fun bt153 => ((store_View.f k t145 t148 t151 0).bind fun bt158 => (if (bt153.1.length : Int) = 1 then (if bt153.2 = 2 then (if (bt158.1.length : Int) = 0 then (if bt158.2 = 1 then ((store_Right.f t145 t148 t151).bind fun t163 => (if t163 = true then ((store_Many.f k t145 t148 t151).bind fun t164 => (some (t164 == 1))) else (none))) else (none)) else (none)) else (none)) else (none)))) = some r := H
 have A1 := zqj A10
 clear A10
 replace H := zqn H
 obtain ⟨⟨t153, t156⟩, A20, H⟩ := H
 replace H : ((store_View.f k t145 t148 t151 0).bind fun bt158 => (if (t153.length : Int) = 1 then (if t156 = 2 then (if (bt158.1.length : Int) = 0 then (if bt158.2 = 1 then ((store_Right.f t145 t148 t151).bind fun t163 => (if t163 = true then ((store_Many.f k t145 t148 t151).bind fun t164 => (some (t164 == 1))) else (none))) else (none)) else (none)) else (none)) else (none))) = some r := H
 have A2 := zqj A20
 clear A20
 replace H := zqn H
 obtain ⟨⟨t158, t161⟩, A30, H⟩ := H
 replace H : (if (t153.length : Int) = 1 then (if t156 = 2 then (if (t158.length : Int) = 0 then (if t161 = 1 then ((store_Right.f t145 t148 t151).bind fun t163 => (if t163 = true then ((store_Many.f k t145 t148 t151).bind fun t164 => (some (t164 == 1))) else (none))) else (none)) else (none)) else (none)) else (none)) = some r := H
 have A3 := zqj A30
 clear A30
 by_cases c4 : (t153.length : Int) = 1
 ·rw [if_pos c4] at H
  have c4b0 : ((t153.length : Int) == 1) = true := beq_iff_eq.mpr c4
  have c4b1 : ((t153.length : Int) != 1) = false := bne_eq_false_iff_eq.mpr c4
  clear c4
  by_cases c5 : t156 = 2
  ·rw [if_pos c5] at H
   have c5b0 : (t156 == 2) = true := beq_iff_eq.mpr c5
   have c5b1 : (t156 != 2) = false := bne_eq_false_iff_eq.mpr c5
   clear c5
   by_cases c6 : (t158.length : Int) = 0
   ·rw [if_pos c6] at H
    have c6b0 : ((t158.length : Int) == 0) = true := beq_iff_eq.mpr c6
    have c6b1 : ((t158.length : Int) != 0) = false := bne_eq_false_iff_eq.mpr c6
    clear c6
    by_cases c7 : t161 = 1
    ·rw [if_pos c7] at H
     have c7b0 : (t161 == 1) = true := beq_iff_eq.mpr c7
     have c7b1 : (t161 != 1) = false := bne_eq_false_iff_eq.mpr c7
     clear c7
     replace H := zqn H
     obtain ⟨t163, A80, H⟩ := H
     replace H : (if t163 = true then ((store_Many.f k t145 t148 t151).bind fun t164 => (some (t164 == 1))) else (none)) = some r := H
     have A8 := zqj A80
     clear A80
     by_cases c9 : t163 = true
     ·subst c9
      have H1 : ((store_Many.f k t145 t148 t151).bind fun t164 => (some (t164 == 1))) = some r := by rw [if_pos rfl] at H; exact H
      clear H
      have H := H1
      clear H1
      replace H := zqn H
      obtain ⟨t164, A100, H⟩ := H
      replace H : (some (t164 == 1)) = some r := H
      have A10 := zqj A100
      clear A100
      obtain rfl := Option.some.inj H
      go_enter Try.func8, Try.ntmps8
      go_wp2_with (first | ((with_reducible refine gate_callee (f := 27) rfl ?_); refine goesL_ (some 4) rfl rfl Try.func27 (by kernel_rfl) rfl #[] rfl zra ?_; (with_reducible refine (store_New.calls  t145 t148 t151 _ A1.out).mono ?_); rintro e w11 ⟨v146, v149, rfl, ho0, ho1, hb⟩; refine ⟨_, rfl, ?_⟩; have n0_ := zqj (Kd.N_lower (Kd.N_mono (ok' := fun k_ => some k_ ≠ (v149 : Value).ownBlock) ho0 (fun k_ hk_ => hk_.2)) (below_size (zrd0 HB.out))); have n1_ := zqj (Kd.R_lower (Kd.R_mono (ok' := fun k_ => True) ho1 (fun _ hk_ => trivial)) (below_size (zrd0 HB.out))); have n2_ := zqj (below_step (zrd0 HB.out) hb); clear HB; have HO147 := n0_; have HO150 := n1_; have HB := n2_; clear n0_ n1_ n2_; (try clear hb); (try clear hb2); (try clear hk); (try clear hi); (try clear ho0); (try clear ho1)) | ((with_reducible refine gate_dst (N := 1) rfl ?_); (try (refine gate_guard (by rfl) ?_; dsimp only)); refine box_event ?hg (N := 1) ?hd (cs := #[.slice none 0 0, .slice none 0 0, .int .i64 0]) (t := 25) ?hr ?_; (case hd => rfl); (case hg => rfl); (case hr => exact zrr); intro gb152 hg w12 hbox hb; have n0_ := zqj (Kd.N_below (Kd.N_elderB (zrN HO147.out) gb152 (Nat.le_of_eq hg.symm)) hb); have n1_ := zqj (Kd.R_below (zrR HO150.out) hb); have n2_ := zqj (below_step (zrd0 HB.out) hb); have n3_ := zqj (hbox); have n4_ := zqj ((by rw [hg]; exact (below_size (zrd0 HB.out)) : w.heap.size ≤ gb152)); have n5_ := zqj ((by rw [hg]; exact (below_size (zrd0 HB.out)) : w.heap.size ≤ gb152)); clear HO147; clear HO150; clear HB; have HO147 := n0_; have HO150 := n1_; have HB := n2_; have BK152 := n3_; have GW152 := n4_; have GE152 := n5_; clear n0_ n1_ n2_ n3_ n4_ n5_; clear hb hbox hg; obtain ⟨Ao13, co13, eo13⟩ := Kd.N_slice HO147.out; subst eo13; obtain ⟨hcz14_0, hcz14_1, hcz14_2⟩ := zc3 BK152.out; obtain ⟨hfz14_0, hfz14_1, hfz14_2⟩ := zf3 BK152.out; obtain ⟨Ao15, co15, eo15⟩ := Kd.R_slice HO150.out; subst eo15) | ((with_reducible refine gate_store (t := 25) (p := 1) rfl ?_); refine store_event (t := 25) (p := 1) (v := ?vo_w16) (w1 := (((w12.setCell ⟨gb152, 0, none⟩ (.slice Ao13 t145.length co13)).setCell ⟨gb152, 1, none⟩ (.slice Ao15 t148.length co15)).setCell ⟨gb152, 2, none⟩ (.int .i64 t151))) ?hg ?ho ?hn ?hr ?_; (case ho => rfl); (case hg => rfl); (case hn => rfl); (case hr => exact zrr); intro w16 hw; have n0_ : Aside0 (Kd.N k55 55 w16 w.heap.size (fun k_ => some k_ ≠ (.slice Ao15 t148.length co15 : Value).ownBlock ∧ k_ ≠ gb152) (.slice Ao13 t145.length co13) t145) := ⟨(by rw [hw]; exact (by (with_reducible repeat (first | apply Kd.N_alloc | apply Kd.N_drewN | apply Kd.N_drew)); exact Kd.N_mono (Kd.N_far (p := ⟨gb152, 2, none⟩) (Kd.N_far (p := ⟨gb152, 1, none⟩) (Kd.N_far (p := ⟨gb152, 0, none⟩) (Kd.N_mono HO147.out (fun k_ hk => (⟨hk, hk.2⟩ : _ ∧ k_ ≠ gb152))) (fun _ hk => hk.2) (.slice Ao13 t145.length co13)) (fun _ hk => hk.2) (.slice Ao15 t148.length co15)) (fun _ hk => hk.2) (.int .i64 t151)) (fun _ hk => ⟨hk.1.1, hk.1.2⟩)))⟩; have n1_ : Aside0 (Kd.R k61 61 w16 w.heap.size (fun _ => True) (.slice Ao15 t148.length co15) t148) := ⟨(by rw [hw]; exact (by (with_reducible repeat (first | apply Kd.R_alloc | apply Kd.R_drewN | apply Kd.R_drew)); exact Kd.R_mono (Kd.R_far (p := ⟨gb152, 2, none⟩) (Kd.R_far (p := ⟨gb152, 1, none⟩) (Kd.R_far (p := ⟨gb152, 0, none⟩) (Kd.R_types HO150.out BK152.out (by decide)) (fun _ hk => hk.2) (.slice Ao13 t145.length co13)) (fun _ hk => hk.2) (.slice Ao15 t148.length co15)) (fun _ hk => hk.2) (.int .i64 t151)) (fun _ hk => trivial)))⟩; have n2_ : Aside0 (w16.heap[gb152]? = some (.cells #[.slice Ao13 t145.length co13, .slice Ao15 t148.length co15, .int .i64 t151] 25 (0, 0))) := ⟨(by rw [hw]; exact (by (with_reducible repeat (first | refine zqa ?_ _ | refine zqb ?_ | refine zqc ?_ _)); refine blk_put (cs := #[.slice Ao13 t145.length co13, .slice Ao15 t148.length co15, .int .i64 0]) ?_ 2 _ rfl; (with_reducible repeat (first | refine zqa ?_ _ | refine zqb ?_ | refine zqc ?_ _)); refine blk_put (cs := #[.slice Ao13 t145.length co13, .slice none 0 0, .int .i64 0]) ?_ 1 _ rfl; (with_reducible repeat (first | refine zqa ?_ _ | refine zqb ?_ | refine zqc ?_ _)); refine blk_put (cs := #[.slice none 0 0, .slice none 0 0, .int .i64 0]) ?_ 0 _ rfl; (with_reducible repeat (first | refine zqa ?_ _ | refine zqb ?_ | refine zqc ?_ _)); exact BK152.out))⟩; have n3_ : Aside0 (Below w.heap.size w w16) := ⟨(by rw [hw]; exact (zrd1 HB.out GE152.out))⟩; clear hw; clear HO147; clear HO150; clear BK152; clear HB; have HO147 := n0_; have HO150 := n1_; have BK152 := n2_; have HB := n3_; clear n0_ n1_ n2_ n3_; obtain ⟨hcz17_0, hcz17_1, hcz17_2⟩ := zc3 BK152.out; obtain ⟨hfz17_0, hfz17_1, hfz17_2⟩ := zf3 BK152.out) | ((with_reducible refine gate_callee (f := 13) rfl ?_); refine goesL_ (some 6) rfl rfl Try.func13 (by kernel_rfl) rfl #[.agg #[.slice Ao13 t145.length co13, .slice Ao15 t148.length co15, .int .i64 t151], .int .i64 1] rfl zra ?_; (with_reducible refine (store_View.calls k (fun k_ => (some k_ ≠ (.slice Ao15 t148.length co15 : Value).ownBlock ∧ k_ ≠ gb152)) _ _ t145 _ _ t148 t151 1 t153 t156 _ ?side1 ?side2 ?side3 A2.out).mono ?_); (case side1 => exact Kd.N_V (HO147.out)); (case side2 => repeat (first | exact (Kd.R_reads' HO150.out).2.2 | (with_reducible refine Kd.C_alloc ?_ _) | (with_reducible refine Kd.C_drewN ?_ _) | (with_reducible refine Kd.C_drew ?_))); (case side3 => exact (Kd.R_reads' HO150.out).2.1); rintro e w18 ⟨v154, rfl, ho0, hb⟩; refine ⟨_, rfl, ?_⟩; have n0_ := zqj (Kd.N_elder' (zrN HO147.out) (Kd.N_base ho0) hb); have n1_ := zqj (Kd.R_below (zrR HO150.out) hb); have n2_ := zqj (Kd.N_lower (Kd.N_mono (ok' := fun k_ => some k_ ≠ (.slice Ao15 t148.length co15 : Value).ownBlock ∧ k_ ≠ gb152) ho0 (fun k_ hk_ => ⟨Or.elim hk_ (fun hs_ => hs_.1) (fun hn_ => (Kd.fresh' (Kd.R_lt (zrR HO150.out)) k_ hn_)), Or.elim hk_ (fun hs_ => hs_.2) (fun hn_ => (Kd.freshB (g := gb152) (o := .cells #[.slice Ao13 t145.length co13, .slice Ao15 t148.length co15, .int .i64 t151] 25 (0, 0)) (zrb BK152.out) k_ hn_))⟩)) (below_size (zrd1 HB.out GE152.out))); have n3_ := zqj (blk_below (g := gb152) (o := .cells #[.slice Ao13 t145.length co13, .slice Ao15 t148.length co15, .int .i64 t151] 25 (0, 0)) (zrb BK152.out) hb); have n4_ := zqj (below_step (zrd1 HB.out GE152.out) hb); clear HO147; clear HO150; clear BK152; clear HB; have HO147 := n0_; have HO150 := n1_; have HO155 := n2_; have BK152 := n3_; have HB := n4_; clear n0_ n1_ n2_ n3_ n4_; (try clear hb); (try clear hb2); (try clear hk); (try clear hi); (try clear ho0)) | ((with_reducible refine gate_dst (N := 2) rfl ?_); (try (refine gate_guard (by rfl) ?_; dsimp only)); refine box_event ?hg (N := 2) ?hd (cs := #[.slice none 0 0, .int .i64 0]) (t := 34) ?hr ?_; (case hd => rfl); (case hg => rfl); (case hr => exact zrr); intro gb157 hg w19 hbox hb; have n0_ := zqj (Kd.N_below (Kd.N_elderB (zrN HO147.out) gb157 (Nat.le_of_eq hg.symm)) hb); have n1_ := zqj (Kd.R_below (zrR HO150.out) hb); have n2_ := zqj (Kd.N_below (Kd.N_elderB (zrN HO155.out) gb157 (Nat.le_of_eq hg.symm)) hb); have n3_ := zqj (blk_below (g := gb152) (o := .cells #[.slice Ao13 t145.length co13, .slice Ao15 t148.length co15, .int .i64 t151] 25 (0, 0)) (zrb BK152.out) hb); have n4_ := zqj (below_step (zrd1 HB.out GE152.out) hb); have n5_ := zqj (hbox); have n6_ := zqj ((by rw [hg]; exact (below_size (zrd1 HB.out GE152.out)) : w.heap.size ≤ gb157)); have n7_ := zqj ((by rw [hg]; exact (below_size (zrd1 HB.out GE152.out)) : w.heap.size ≤ gb157)); have n8_ := zqj ((by rw [hg]; exact Nat.ne_of_lt (blk_lt (g := gb152) (o := .cells #[.slice Ao13 t145.length co13, .slice Ao15 t148.length co15, .int .i64 t151] 25 (0, 0)) (zrb BK152.out)) : gb152 ≠ gb157)); have n9_ := zqj ((by rw [hg]; exact Nat.ne_of_gt (blk_lt (g := gb152) (o := .cells #[.slice Ao13 t145.length co13, .slice Ao15 t148.length co15, .int .i64 t151] 25 (0, 0)) (zrb BK152.out)) : gb157 ≠ gb152)); clear HO147; clear HO150; clear HO155; clear BK152; clear HB; have HO147 := n0_; have HO150 := n1_; have HO155 := n2_; have BK152 := n3_; have HB := n4_; have BK157 := n5_; have GW157 := n6_; have GE157 := n7_; have NB152_157 := n8_; have NB157_152 := n9_; clear n0_ n1_ n2_ n3_ n4_ n5_ n6_ n7_ n8_ n9_; clear hb hbox hg; obtain ⟨Ao20, co20, eo20⟩ := Kd.N_slice HO155.out; subst eo20; have hnb21 := NB157_152.out; have hnc21 := NB152_157.out; obtain ⟨hcz22_0, hcz22_1⟩ := zc2 BK157.out; obtain ⟨hfz22_0, hfz22_1⟩ := zf2 BK157.out) | ((with_reducible refine gate_store (t := 34) (p := 2) rfl ?_); refine store_event (t := 34) (p := 2) (v := ?vo_w23) (w1 := ((w19.setCell ⟨gb157, 0, none⟩ (.slice Ao20 t153.length co20)).setCell ⟨gb157, 1, none⟩ (.int .i64 t156))) ?hg ?ho ?hn ?hr ?_; (case ho => rfl); (case hg => rfl); (case hn => rfl); (case hr => exact zrr); intro w23 hw; have n0_ : Aside0 (Kd.N k55 55 w23 w.heap.size (fun k_ => some k_ ≠ (.slice Ao15 t148.length co15 : Value).ownBlock ∧ some k_ ≠ (.slice Ao20 t153.length co20 : Value).ownBlock ∧ k_ ≠ gb152 ∧ k_ ≠ gb157) (.slice Ao13 t145.length co13) t145) := ⟨(by rw [hw]; exact (by (with_reducible repeat (first | apply Kd.N_alloc | apply Kd.N_drewN | apply Kd.N_drew)); exact Kd.N_mono (Kd.N_far (p := ⟨gb157, 1, none⟩) (Kd.N_far (p := ⟨gb157, 0, none⟩) (Kd.N_mono HO147.out (fun k_ hk => (⟨hk, hk.2⟩ : _ ∧ k_ ≠ gb157))) (fun _ hk => hk.2) (.slice Ao20 t153.length co20)) (fun _ hk => hk.2) (.int .i64 t156)) (fun _ hk => ⟨hk.1.1.1.1, ⟨hk.1.1.2, ⟨hk.1.1.1.2, hk.1.2⟩⟩⟩)))⟩; have n1_ : Aside0 (Kd.R k61 61 w23 w.heap.size (fun _ => True) (.slice Ao15 t148.length co15) t148) := ⟨(by rw [hw]; exact (by (with_reducible repeat (first | apply Kd.R_alloc | apply Kd.R_drewN | apply Kd.R_drew)); exact Kd.R_mono (Kd.R_far (p := ⟨gb157, 1, none⟩) (Kd.R_far (p := ⟨gb157, 0, none⟩) (Kd.R_types HO150.out BK157.out (by decide)) (fun _ hk => hk.2) (.slice Ao20 t153.length co20)) (fun _ hk => hk.2) (.int .i64 t156)) (fun _ hk => trivial)))⟩; have n2_ : Aside0 (Kd.N k38 38 w23 w.heap.size (fun k_ => some k_ ≠ (.slice Ao15 t148.length co15 : Value).ownBlock ∧ k_ ≠ gb152 ∧ k_ ≠ gb157) (.slice Ao20 t153.length co20) t153) := ⟨(by rw [hw]; exact (by (with_reducible repeat (first | apply Kd.N_alloc | apply Kd.N_drewN | apply Kd.N_drew)); exact Kd.N_mono (Kd.N_far (p := ⟨gb157, 1, none⟩) (Kd.N_far (p := ⟨gb157, 0, none⟩) (Kd.N_mono HO155.out (fun k_ hk => (⟨hk, hk.2⟩ : _ ∧ k_ ≠ gb157))) (fun _ hk => hk.2) (.slice Ao20 t153.length co20)) (fun _ hk => hk.2) (.int .i64 t156)) (fun _ hk => ⟨hk.1.1.1, ⟨hk.1.1.2, hk.1.2⟩⟩)))⟩; have n3_ : Aside0 (w23.heap[gb152]? = some (.cells #[.slice Ao13 t145.length co13, .slice Ao15 t148.length co15, .int .i64 t151] 25 (0, 0))) := ⟨(by rw [hw]; exact (by (iterate 2 ((with_reducible repeat (first | refine zqa ?_ _ | refine zqb ?_ | refine zqc ?_ _)); refine blk_far ?_ NB152_157.out _)); (with_reducible repeat (first | refine zqa ?_ _ | refine zqb ?_ | refine zqc ?_ _)); exact BK152.out))⟩; have n4_ : Aside0 (w23.heap[gb157]? = some (.cells #[.slice Ao20 t153.length co20, .int .i64 t156] 34 (0, 0))) := ⟨(by rw [hw]; exact (by (with_reducible repeat (first | refine zqa ?_ _ | refine zqb ?_ | refine zqc ?_ _)); refine blk_put (cs := #[.slice Ao20 t153.length co20, .int .i64 0]) ?_ 1 _ rfl; (with_reducible repeat (first | refine zqa ?_ _ | refine zqb ?_ | refine zqc ?_ _)); refine blk_put (cs := #[.slice none 0 0, .int .i64 0]) ?_ 0 _ rfl; (with_reducible repeat (first | refine zqa ?_ _ | refine zqb ?_ | refine zqc ?_ _)); exact BK157.out))⟩; have n5_ : Aside0 (Below w.heap.size w w23) := ⟨(by rw [hw]; exact (zrd2 HB.out GE152.out GE157.out))⟩; clear hw; clear HO147; clear HO150; clear HO155; clear BK152; clear BK157; clear HB; have HO147 := n0_; have HO150 := n1_; have HO155 := n2_; have BK152 := n3_; have BK157 := n4_; have HB := n5_; clear n0_ n1_ n2_ n3_ n4_ n5_; obtain ⟨hcz24_0, hcz24_1, hcz24_2⟩ := zc3 BK152.out; obtain ⟨hfz24_0, hfz24_1, hfz24_2⟩ := zf3 BK152.out) | ((with_reducible refine gate_callee (f := 13) rfl ?_); refine goesL_ (some 8) rfl rfl Try.func13 (by kernel_rfl) rfl #[.agg #[.slice Ao13 t145.length co13, .slice Ao15 t148.length co15, .int .i64 t151], .int .i64 0] rfl zra ?_; (with_reducible refine (store_View.calls k (fun k_ => (some k_ ≠ (.slice Ao15 t148.length co15 : Value).ownBlock ∧ (some k_ ≠ (.slice Ao20 t153.length co20 : Value).ownBlock ∧ (k_ ≠ gb152 ∧ k_ ≠ gb157)))) _ _ t145 _ _ t148 t151 0 t158 t161 _ ?side1 ?side2 ?side3 A3.out).mono ?_); (case side1 => exact Kd.N_V (HO147.out)); (case side2 => repeat (first | exact (Kd.R_reads' HO150.out).2.2 | (with_reducible refine Kd.C_alloc ?_ _) | (with_reducible refine Kd.C_drewN ?_ _) | (with_reducible refine Kd.C_drew ?_))); (case side3 => exact (Kd.R_reads' HO150.out).2.1); rintro e w25 ⟨v159, rfl, ho0, hb⟩; refine ⟨_, rfl, ?_⟩; have n0_ := zqj (Kd.N_elder' (zrN HO147.out) (Kd.N_base ho0) hb); have n1_ := zqj (Kd.R_below (zrR HO150.out) hb); have n2_ := zqj (Kd.N_elder' (zrN HO155.out) (Kd.N_base ho0) hb); have n3_ := zqj (Kd.N_lower (Kd.N_mono (ok' := fun k_ => some k_ ≠ (.slice Ao15 t148.length co15 : Value).ownBlock ∧ some k_ ≠ (.slice Ao20 t153.length co20 : Value).ownBlock ∧ k_ ≠ gb152 ∧ k_ ≠ gb157) ho0 (fun k_ hk_ => ⟨Or.elim hk_ (fun hs_ => hs_.1) (fun hn_ => (Kd.fresh' (Kd.R_lt (zrR HO150.out)) k_ hn_)), Or.elim hk_ (fun hs_ => hs_.2.1) (fun hn_ => (Kd.fresh' (Kd.N_lt (zrN HO155.out)) k_ hn_)), Or.elim hk_ (fun hs_ => hs_.2.2.1) (fun hn_ => (Kd.freshB (g := gb152) (o := .cells #[.slice Ao13 t145.length co13, .slice Ao15 t148.length co15, .int .i64 t151] 25 (0, 0)) (zrb BK152.out) k_ hn_)), Or.elim hk_ (fun hs_ => hs_.2.2.2) (fun hn_ => (Kd.freshB (g := gb157) (o := .cells #[.slice Ao20 t153.length co20, .int .i64 t156] 34 (0, 0)) (zrb BK157.out) k_ hn_))⟩)) (below_size (zrd2 HB.out GE152.out GE157.out))); have n4_ := zqj (blk_below (g := gb152) (o := .cells #[.slice Ao13 t145.length co13, .slice Ao15 t148.length co15, .int .i64 t151] 25 (0, 0)) (zrb BK152.out) hb); have n5_ := zqj (blk_below (g := gb157) (o := .cells #[.slice Ao20 t153.length co20, .int .i64 t156] 34 (0, 0)) (zrb BK157.out) hb); have n6_ := zqj (below_step (zrd2 HB.out GE152.out GE157.out) hb); clear HO147; clear HO150; clear HO155; clear BK152; clear BK157; clear HB; have HO147 := n0_; have HO150 := n1_; have HO155 := n2_; have HO160 := n3_; have BK152 := n4_; have BK157 := n5_; have HB := n6_; clear n0_ n1_ n2_ n3_ n4_ n5_ n6_; (try clear hb); (try clear hb2); (try clear hk); (try clear hi); (try clear ho0)) | ((with_reducible refine gate_dst (N := 3) rfl ?_); (try (refine gate_guard (by rfl) ?_; dsimp only)); refine box_event ?hg (N := 3) ?hd (cs := #[.slice none 0 0, .int .i64 0]) (t := 34) ?hr ?_; (case hd => rfl); (case hg => rfl); (case hr => exact zrr); intro gb162 hg w26 hbox hb; have n0_ := zqj (Kd.N_below (Kd.N_elderB (zrN HO147.out) gb162 (Nat.le_of_eq hg.symm)) hb); have n1_ := zqj (Kd.R_below (zrR HO150.out) hb); have n2_ := zqj (Kd.N_below (Kd.N_elderB (zrN HO155.out) gb162 (Nat.le_of_eq hg.symm)) hb); have n3_ := zqj (Kd.N_below (Kd.N_elderB (zrN HO160.out) gb162 (Nat.le_of_eq hg.symm)) hb); have n4_ := zqj (blk_below (g := gb152) (o := .cells #[.slice Ao13 t145.length co13, .slice Ao15 t148.length co15, .int .i64 t151] 25 (0, 0)) (zrb BK152.out) hb); have n5_ := zqj (blk_below (g := gb157) (o := .cells #[.slice Ao20 t153.length co20, .int .i64 t156] 34 (0, 0)) (zrb BK157.out) hb); have n6_ := zqj (below_step (zrd2 HB.out GE152.out GE157.out) hb); have n7_ := zqj (hbox); have n8_ := zqj ((by rw [hg]; exact (below_size (zrd2 HB.out GE152.out GE157.out)) : w.heap.size ≤ gb162)); have n9_ := zqj ((by rw [hg]; exact (below_size (zrd2 HB.out GE152.out GE157.out)) : w.heap.size ≤ gb162)); have n10_ := zqj ((by rw [hg]; exact Nat.ne_of_lt (blk_lt (g := gb152) (o := .cells #[.slice Ao13 t145.length co13, .slice Ao15 t148.length co15, .int .i64 t151] 25 (0, 0)) (zrb BK152.out)) : gb152 ≠ gb162)); have n11_ := zqj ((by rw [hg]; exact Nat.ne_of_gt (blk_lt (g := gb152) (o := .cells #[.slice Ao13 t145.length co13, .slice Ao15 t148.length co15, .int .i64 t151] 25 (0, 0)) (zrb BK152.out)) : gb162 ≠ gb152)); have n12_ := zqj ((by rw [hg]; exact Nat.ne_of_lt (blk_lt (g := gb157) (o := .cells #[.slice Ao20 t153.length co20, .int .i64 t156] 34 (0, 0)) (zrb BK157.out)) : gb157 ≠ gb162)); have n13_ := zqj ((by rw [hg]; exact Nat.ne_of_gt (blk_lt (g := gb157) (o := .cells #[.slice Ao20 t153.length co20, .int .i64 t156] 34 (0, 0)) (zrb BK157.out)) : gb162 ≠ gb157)); clear HO147; clear HO150; clear HO155; clear HO160; clear BK152; clear BK157; clear HB; have HO147 := n0_; have HO150 := n1_; have HO155 := n2_; have HO160 := n3_; have BK152 := n4_; have BK157 := n5_; have HB := n6_; have BK162 := n7_; have GW162 := n8_; have GE162 := n9_; have NB152_162 := n10_; have NB162_152 := n11_; have NB157_162 := n12_; have NB162_157 := n13_; clear n0_ n1_ n2_ n3_ n4_ n5_ n6_ n7_ n8_ n9_ n10_ n11_ n12_ n13_; clear hb hbox hg; obtain ⟨Ao27, co27, eo27⟩ := Kd.N_slice HO160.out; subst eo27; have hnb28 := NB162_152.out; have hnc28 := NB152_162.out; have hnb29 := NB162_157.out; have hnc29 := NB157_162.out; obtain ⟨hcz30_0, hcz30_1⟩ := zc2 BK162.out; obtain ⟨hfz30_0, hfz30_1⟩ := zf2 BK162.out; obtain ⟨hcz31_0, hcz31_1⟩ := zc2 BK157.out; obtain ⟨hfz31_0, hfz31_1⟩ := zf2 BK157.out; obtain ⟨hcz32_0, hcz32_1, hcz32_2⟩ := zc3 BK152.out; obtain ⟨hfz32_0, hfz32_1, hfz32_2⟩ := zf3 BK152.out) | (go_at_call 14; (with_reducible refine (store_Right.calls _ _ t145 _ _ t148 t151 true _ ?side1 ?side2 ?side3 ?side4 A8.out).mono ?_); (case side1 => refine (Kd.N_reads' (e := 55) (base := w.heap.size) (ok := fun k_ => (((some k_ ≠ (.slice Ao15 t148.length co15 : Value).ownBlock ∧ (some k_ ≠ (.slice Ao20 t153.length co20 : Value).ownBlock ∧ (k_ ≠ gb152 ∧ k_ ≠ gb157))) ∧ some k_ ≠ (.slice Ao27 t158.length co27 : Value).ownBlock) ∧ k_ ≠ gb162)) (n := t145.length) (c := co13) ?_).2.2; exact (by (with_reducible repeat (first | apply Kd.N_alloc | apply Kd.N_drewN | apply Kd.N_drew)); exact (Kd.N_mono (Kd.N_far (p := ⟨gb162, 1, none⟩) (Kd.N_far (p := ⟨gb162, 0, none⟩) (Kd.N_mono HO147.out (fun k_ hk => (⟨hk, hk.2⟩ : _ ∧ k_ ≠ gb162))) (fun _ hk => hk.2) (.slice Ao27 t158.length co27)) (fun _ hk => hk.2) (.int .i64 t161)) (fun _ h_ => h_.1)))); (case side2 => exact (Kd.N_reads' HO147.out).2.1); (case side3 => refine (Kd.R_reads' (e := 61) (base := w.heap.size) (ok := fun k_ => True) (n := t148.length) (c := co15) ?_).2.2; exact (by (with_reducible repeat (first | apply Kd.R_alloc | apply Kd.R_drewN | apply Kd.R_drew)); exact (Kd.R_mono (Kd.R_far (p := ⟨gb162, 1, none⟩) (Kd.R_far (p := ⟨gb162, 0, none⟩) (Kd.R_types HO150.out BK162.out (by decide)) (fun _ hk => hk.2) (.slice Ao27 t158.length co27)) (fun _ hk => hk.2) (.int .i64 t161)) (fun _ h_ => h_.1)))); (case side4 => exact (Kd.R_reads' HO150.out).2.1); rintro e w33 ⟨rfl, hb⟩; have n0_ := zqj (Kd.N_below (by (with_reducible repeat (first | apply Kd.N_alloc | apply Kd.N_drewN | apply Kd.N_drew)); exact (Kd.N_mono (Kd.N_far (p := ⟨gb162, 1, none⟩) (Kd.N_far (p := ⟨gb162, 0, none⟩) (Kd.N_mono HO147.out (fun k_ hk => (⟨hk, hk.2⟩ : _ ∧ k_ ≠ gb162))) (fun _ hk => hk.2) (.slice Ao27 t158.length co27)) (fun _ hk => hk.2) (.int .i64 t161)) (fun _ h_ => h_.1))) hb); have n1_ := zqj (Kd.R_below (by (with_reducible repeat (first | apply Kd.R_alloc | apply Kd.R_drewN | apply Kd.R_drew)); exact (Kd.R_mono (Kd.R_far (p := ⟨gb162, 1, none⟩) (Kd.R_far (p := ⟨gb162, 0, none⟩) (Kd.R_types HO150.out BK162.out (by decide)) (fun _ hk => hk.2) (.slice Ao27 t158.length co27)) (fun _ hk => hk.2) (.int .i64 t161)) (fun _ h_ => h_.1))) hb); have n2_ := zqj (Kd.N_below (by (with_reducible repeat (first | apply Kd.N_alloc | apply Kd.N_drewN | apply Kd.N_drew)); exact (Kd.N_mono (Kd.N_far (p := ⟨gb162, 1, none⟩) (Kd.N_far (p := ⟨gb162, 0, none⟩) (Kd.N_mono HO155.out (fun k_ hk => (⟨hk, hk.2⟩ : _ ∧ k_ ≠ gb162))) (fun _ hk => hk.2) (.slice Ao27 t158.length co27)) (fun _ hk => hk.2) (.int .i64 t161)) (fun _ h_ => h_.1))) hb); have n3_ := zqj (Kd.N_below (by (with_reducible repeat (first | apply Kd.N_alloc | apply Kd.N_drewN | apply Kd.N_drew)); exact (Kd.N_mono (Kd.N_far (p := ⟨gb162, 1, none⟩) (Kd.N_far (p := ⟨gb162, 0, none⟩) (Kd.N_mono HO160.out (fun k_ hk => (⟨hk, hk.2⟩ : _ ∧ k_ ≠ gb162))) (fun _ hk => hk.2) (.slice Ao27 t158.length co27)) (fun _ hk => hk.2) (.int .i64 t161)) (fun _ h_ => h_.1))) hb); have n4_ := zqj (blk_below (g := gb152) (o := .cells #[.slice Ao13 t145.length co13, .slice Ao15 t148.length co15, .int .i64 t151] 25 (0, 0)) (by (iterate 2 ((with_reducible repeat (first | refine zqa ?_ _ | refine zqb ?_ | refine zqc ?_ _)); refine blk_far ?_ NB152_162.out _)); (with_reducible repeat (first | refine zqa ?_ _ | refine zqb ?_ | refine zqc ?_ _)); exact BK152.out) hb); have n5_ := zqj (blk_below (g := gb157) (o := .cells #[.slice Ao20 t153.length co20, .int .i64 t156] 34 (0, 0)) (by (iterate 2 ((with_reducible repeat (first | refine zqa ?_ _ | refine zqb ?_ | refine zqc ?_ _)); refine blk_far ?_ NB157_162.out _)); (with_reducible repeat (first | refine zqa ?_ _ | refine zqb ?_ | refine zqc ?_ _)); exact BK157.out) hb); have n6_ := zqj (blk_below (g := gb162) (o := .cells #[.slice Ao27 t158.length co27, .int .i64 t161] 34 (0, 0)) (by (with_reducible repeat (first | refine zqa ?_ _ | refine zqb ?_ | refine zqc ?_ _)); refine blk_put (cs := #[.slice Ao27 t158.length co27, .int .i64 0]) ?_ 1 _ rfl; (with_reducible repeat (first | refine zqa ?_ _ | refine zqb ?_ | refine zqc ?_ _)); refine blk_put (cs := #[.slice none 0 0, .int .i64 0]) ?_ 0 _ rfl; (with_reducible repeat (first | refine zqa ?_ _ | refine zqb ?_ | refine zqc ?_ _)); exact BK162.out) hb); have n7_ := zqj (below_step (zrd3 HB.out GE152.out GE157.out GE162.out) hb); clear HO147; clear HO150; clear HO155; clear HO160; clear BK152; clear BK157; clear BK162; clear HB; have HO147 := n0_; have HO150 := n1_; have HO155 := n2_; have HO160 := n3_; have BK152 := n4_; have BK157 := n5_; have BK162 := n6_; have HB := n7_; clear n0_ n1_ n2_ n3_ n4_ n5_ n6_ n7_; (try clear hb); (try clear hb2); (try clear hk); (try clear hi); obtain ⟨hcz34_0, hcz34_1, hcz34_2⟩ := zc3 BK152.out; obtain ⟨hfz34_0, hfz34_1, hfz34_2⟩ := zf3 BK152.out) | (go_at_call 19; (with_reducible refine (store_Many.calls k _ _ t145 _ _ t148 t151 t164 _ ?side1 ?side2 ?side3 ?side4 A10.out).mono ?_); (case side1 => repeat (first | exact (Kd.N_reads' HO147.out).2.2 | (with_reducible refine Kd.C_alloc ?_ _) | (with_reducible refine Kd.C_drewN ?_ _) | (with_reducible refine Kd.C_drew ?_))); (case side2 => exact (Kd.N_reads' HO147.out).2.1); (case side3 => repeat (first | exact (Kd.R_reads' HO150.out).2.2 | (with_reducible refine Kd.C_alloc ?_ _) | (with_reducible refine Kd.C_drewN ?_ _) | (with_reducible refine Kd.C_drew ?_))); (case side4 => exact (Kd.R_reads' HO150.out).2.1); rintro e w35 ⟨rfl, hb⟩; have n0_ := zqj (Kd.N_below (zrN HO147.out) hb); have n1_ := zqj (Kd.R_below (zrR HO150.out) hb); have n2_ := zqj (Kd.N_below (zrN HO155.out) hb); have n3_ := zqj (Kd.N_below (zrN HO160.out) hb); have n4_ := zqj (blk_below (g := gb152) (o := .cells #[.slice Ao13 t145.length co13, .slice Ao15 t148.length co15, .int .i64 t151] 25 (0, 0)) (zrb BK152.out) hb); have n5_ := zqj (blk_below (g := gb157) (o := .cells #[.slice Ao20 t153.length co20, .int .i64 t156] 34 (0, 0)) (zrb BK157.out) hb); have n6_ := zqj (blk_below (g := gb162) (o := .cells #[.slice Ao27 t158.length co27, .int .i64 t161] 34 (0, 0)) (zrb BK162.out) hb); have n7_ := zqj (below_step (zrd3 HB.out GE152.out GE157.out GE162.out) hb); clear HO147; clear HO150; clear HO155; clear HO160; clear BK152; clear BK157; clear BK162; clear HB; have HO147 := n0_; have HO150 := n1_; have HO155 := n2_; have HO160 := n3_; have BK152 := n4_; have BK157 := n5_; have BK162 := n6_; have HB := n7_; clear n0_ n1_ n2_ n3_ n4_ n5_ n6_ n7_; (try clear hb); (try clear hb2); (try clear hk); (try clear hi)))
      go_ret
      exact ⟨zru, by repeat (first | (with_reducible first | exact HB.out | apply zqg | apply zqe | apply zqf | refine zqd ?_ GE152.out | refine zqd ?_ GE157.out | refine zqd ?_ GE162.out) | exact HB.out)⟩
     ·replace c9 := Bool.eq_false_iff.mpr c9
      subst c9
      have H1 : (none) = some r := by rw [if_neg (show ¬ (false = true) by decide)] at H; exact H
      clear H
      have H := H1
      clear H1
      exact absurd H (by simp)
    ·rw [if_neg c7] at H
     exact absurd H (by simp)
   ·rw [if_neg c6] at H
    exact absurd H (by simp)
  ·rw [if_neg c5] at H
   exact absurd H (by simp)
 ·rw [if_neg c4] at H
  exact absurd H (by simp)
end Go.Proofs.Ytdkgkiemndlneaa.Q
end

section
namespace Go.Proofs.Ytdkgkiemndlneaa.Q
open Go.RowKit Go.Proofs.YtdkgkiemndlneaaW.PrintWords Go.Proofs.YtdkgkiemndlneaaW.PrintLast Go.Proofs.YtdkgkiemndlneaaW.PrintMore
attribute [local go_sem] max2_int min2_int max_two min_two max_three min_three max_four min_four   -- for this text's walks alone
open Go.Proofs.Ytdkgkiemndlneaa.X
attribute [local go_sem high] Go.Proofs.Ytdkgkiemndlneaa.px_xor_u8 Go.Proofs.Ytdkgkiemndlneaa.px_xor_u16 Go.Proofs.Ytdkgkiemndlneaa.px_xor_u32 Go.Proofs.Ytdkgkiemndlneaa.px_xor_u64
mutual
def copyholdref12_Few.l0 : Nat → Int → Int → List (S55) → List (S61) → Int → Option (Bool)
 | 0, _, _, _, _, _ => none
 | k + 1, x3, x4, x166000, x166001, x166002 => if x4 < (x166000.length : Int) then (copyholdref12_Few.j1 k x3 x4 (decide (x3 ≤ 200)) x166000 x166001 x166002) else (copyholdref12_Few.j1 k x3 x4 false x166000 x166001 x166002)
def copyholdref12_Few.j1 : Nat → Int → Int → Bool → List (S55) → List (S61) → Int → Option (Bool)
 | 0, _, _, _, _, _, _ => none
 | k + 1, x3, x4, x21, x166000, x166001, x166002 => if x21 = true then (if 0 ≤ x4 then (if x4 < (x166000.length : Int) then (copyholdref12_Few.l1 k (wrap64 (x3 + (((rd_T55 x166000 x4).f1).length : Int))) x4 0 x166000 x166001 x166002) else (none)) else (none)) else (some (decide (x3 ≤ 200)))
def copyholdref12_Few.l1 : Nat → Int → Int → Int → List (S55) → List (S61) → Int → Option (Bool)
 | 0, _, _, _, _, _, _ => none
 | k + 1, x3, x4, x5, x166000, x166001, x166002 => if 0 ≤ x4 then (if x4 < (x166000.length : Int) then (if x5 < (((rd_T55 x166000 x4).f1).length : Int) then (copyholdref12_Few.j3 k x3 x4 x5 (decide (x3 ≤ 200)) x166000 x166001 x166002) else (copyholdref12_Few.j3 k x3 x4 x5 false x166000 x166001 x166002)) else (none)) else (none)
def copyholdref12_Few.j3 : Nat → Int → Int → Int → Bool → List (S55) → List (S61) → Int → Option (Bool)
 | 0, _, _, _, _, _, _, _ => none
 | k + 1, x3, x4, x5, x45, x166000, x166001, x166002 => if x45 = true then (if 0 ≤ x4 then (if x4 < (x166000.length : Int) then (if 0 ≤ x5 then (if x5 < (((rd_T55 x166000 x4).f1).length : Int) then (if (((rd_T58 ((rd_T55 x166000 x4).f1) x5).f2.f3).size : Int) > 4096 then (some false) else (copyholdref12_Few.l1 k (wrap64 (x3 + (((rd_T58 ((rd_T55 x166000 x4).f1) x5).f2.f4).length : Int))) x4 (wrap64 (x5 + 1)) x166000 x166001 x166002)) else (none)) else (none)) else (none)) else (none)) else (copyholdref12_Few.l0 k x3 (wrap64 (x4 + 1)) x166000 x166001 x166002)
end
def copyholdref12_Few.f (k : Nat) (l0_0 : List (S55)) (l0_1 : List (S61)) (a0_2 : Int) : Option (Bool) := copyholdref12_Few.l0 k (wrap64 ((l0_0.length : Int) + (l0_1.length : Int))) 0 l0_0 l0_1 a0_2
theorem copyholdref12_Few.mono_l : ∀ k, (∀ y0 y1 y2 y3 y4, LeO (copyholdref12_Few.l0 k y0 y1 y2 y3 y4) (copyholdref12_Few.l0 (k + 1) y0 y1 y2 y3 y4)) ∧ (∀ y0 y1 y2 y3 y4 y5, LeO (copyholdref12_Few.j1 k y0 y1 y2 y3 y4 y5) (copyholdref12_Few.j1 (k + 1) y0 y1 y2 y3 y4 y5)) ∧ (∀ y0 y1 y2 y3 y4 y5, LeO (copyholdref12_Few.l1 k y0 y1 y2 y3 y4 y5) (copyholdref12_Few.l1 (k + 1) y0 y1 y2 y3 y4 y5)) ∧ (∀ y0 y1 y2 y3 y4 y5 y6, LeO (copyholdref12_Few.j3 k y0 y1 y2 y3 y4 y5 y6) (copyholdref12_Few.j3 (k + 1) y0 y1 y2 y3 y4 y5 y6))
 | 0 => ⟨fun _ _ _ _ _ r h => by simp [copyholdref12_Few.l0] at h, fun _ _ _ _ _ _ r h => by simp [copyholdref12_Few.j1] at h, fun _ _ _ _ _ _ r h => by simp [copyholdref12_Few.l1] at h, fun _ _ _ _ _ _ _ r h => by simp [copyholdref12_Few.j3] at h⟩
 | k + 1 => by
  obtain ⟨ih0, ih1, ih2, ih3⟩ := copyholdref12_Few.mono_l k
  refine ⟨?_, ?_, ?_, ?_⟩
  ·intro y0 y1 y2 y3 y4
   unfold copyholdref12_Few.l0
   repeat' first
   | (with_reducible exact ih0 _ _ _ _ _)
   | (with_reducible exact ih1 _ _ _ _ _ _)
   | (with_reducible exact ih2 _ _ _ _ _ _)
   | (with_reducible exact ih3 _ _ _ _ _ _ _)
   | (with_reducible exact LeO.refl _)
   | (with_reducible exact LeO.none _)
   | (with_reducible refine LeO.ite ?_ ?_)
   | (with_reducible refine LeO.bind ?_ (fun _ => ?_))
   | exact ih0 _ _ _ _ _
   | exact ih1 _ _ _ _ _ _
   | exact ih2 _ _ _ _ _ _
   | exact ih3 _ _ _ _ _ _ _
   | exact LeO.none _
   | refine LeO.ite ?_ ?_
   | refine LeO.bind ?_ (fun _ => ?_)
  ·intro y0 y1 y2 y3 y4 y5
   unfold copyholdref12_Few.j1
   repeat' first
   | (with_reducible exact ih0 _ _ _ _ _)
   | (with_reducible exact ih1 _ _ _ _ _ _)
   | (with_reducible exact ih2 _ _ _ _ _ _)
   | (with_reducible exact ih3 _ _ _ _ _ _ _)
   | (with_reducible exact LeO.refl _)
   | (with_reducible exact LeO.none _)
   | (with_reducible refine LeO.ite ?_ ?_)
   | (with_reducible refine LeO.bind ?_ (fun _ => ?_))
   | exact ih0 _ _ _ _ _
   | exact ih1 _ _ _ _ _ _
   | exact ih2 _ _ _ _ _ _
   | exact ih3 _ _ _ _ _ _ _
   | exact LeO.none _
   | refine LeO.ite ?_ ?_
   | refine LeO.bind ?_ (fun _ => ?_)
  ·intro y0 y1 y2 y3 y4 y5
   unfold copyholdref12_Few.l1
   repeat' first
   | (with_reducible exact ih0 _ _ _ _ _)
   | (with_reducible exact ih1 _ _ _ _ _ _)
   | (with_reducible exact ih2 _ _ _ _ _ _)
   | (with_reducible exact ih3 _ _ _ _ _ _ _)
   | (with_reducible exact LeO.refl _)
   | (with_reducible exact LeO.none _)
   | (with_reducible refine LeO.ite ?_ ?_)
   | (with_reducible refine LeO.bind ?_ (fun _ => ?_))
   | exact ih0 _ _ _ _ _
   | exact ih1 _ _ _ _ _ _
   | exact ih2 _ _ _ _ _ _
   | exact ih3 _ _ _ _ _ _ _
   | exact LeO.none _
   | refine LeO.ite ?_ ?_
   | refine LeO.bind ?_ (fun _ => ?_)
  ·intro y0 y1 y2 y3 y4 y5 y6
   unfold copyholdref12_Few.j3
   repeat' first
   | (with_reducible exact ih0 _ _ _ _ _)
   | (with_reducible exact ih1 _ _ _ _ _ _)
   | (with_reducible exact ih2 _ _ _ _ _ _)
   | (with_reducible exact ih3 _ _ _ _ _ _ _)
   | (with_reducible exact LeO.refl _)
   | (with_reducible exact LeO.none _)
   | (with_reducible refine LeO.ite ?_ ?_)
   | (with_reducible refine LeO.bind ?_ (fun _ => ?_))
   | exact ih0 _ _ _ _ _
   | exact ih1 _ _ _ _ _ _
   | exact ih2 _ _ _ _ _ _
   | exact ih3 _ _ _ _ _ _ _
   | exact LeO.none _
   | refine LeO.ite ?_ ?_
   | refine LeO.bind ?_ (fun _ => ?_)
theorem copyholdref12_Few.mono : ∀ a0 a1 a2 k, LeO (copyholdref12_Few.f k a0 a1 a2) (copyholdref12_Few.f (k + 1) a0 a1 a2) := by
 intro a0 a1 a2 k
 obtain ⟨ih0, ih1, ih2, ih3⟩ := copyholdref12_Few.mono_l k
 unfold copyholdref12_Few.f
 repeat' first
   | (with_reducible exact ih0 _ _ _ _ _)
   | (with_reducible exact ih1 _ _ _ _ _ _)
   | (with_reducible exact ih2 _ _ _ _ _ _)
   | (with_reducible exact ih3 _ _ _ _ _ _ _)
   | (with_reducible exact LeO.refl _)
   | (with_reducible exact LeO.none _)
   | (with_reducible refine LeO.ite ?_ ?_)
   | (with_reducible refine LeO.bind ?_ (fun _ => ?_))
   | exact ih0 _ _ _ _ _
   | exact ih1 _ _ _ _ _ _
   | exact ih2 _ _ _ _ _ _
   | exact ih3 _ _ _ _ _ _ _
   | exact LeO.none _
   | refine LeO.ite ?_ ?_
   | refine LeO.bind ?_ (fun _ => ?_)
set_option maxHeartbeats 8000000 in
set_option maxRecDepth 100000 in
theorem copyholdref12_Few.calls (k : Nat) (A0_0 : Option Addr) (c0_0 : Nat) (l0_0 : List (S55)) (A0_1 : Option Addr) (c0_1 : Nat) (l0_1 : List (S61)) (a0_2 : Int) (r : Bool) (w : World) (hr0_0 : Kd.C k55 w A0_0 l0_0.length l0_0) (hc0_0 : l0_0.length ≤ c0_0) (hr0_1 : Kd.C k61 w A0_1 l0_1.length l0_1) (hc0_1 : l0_1.length ≤ c0_1) (h : copyholdref12_Few.f k l0_0 l0_1 a0_2 = some r) :
  Calls Try.prog 9 #[.agg #[.slice A0_0 l0_0.length c0_0, .slice A0_1 l0_1.length c0_1, .int .i64 a0_2]] w fun e w' => e = .returned (.bool r) ∧ Below w.heap.size w w' := by
 have hu25 := Try.underlying25
 have HR0_0 := zqj hr0_0
 have HC0_0 := zqj hc0_0
 clear hr0_0 hc0_0
 have HR0_1 := zqj hr0_1
 have HC0_1 := zqj hc0_1
 clear hr0_1 hc0_1
 have HB := zqj (Below.refl w.heap.size w)
 have H : (copyholdref12_Few.l0 k (wrap64 ((l0_0.length : Int) + (l0_1.length : Int))) 0 l0_0 l0_1 a0_2) = some r := h
 clear h
 have H' := zqj H
 clear H
 go_enter Try.func9, Try.ntmps9
 go_wp2_with (first | ((with_reducible refine gate_dst (N := 1) rfl ?_); refine box_event ?hg (N := 1) ?hd (cs := #[.slice A0_0 l0_0.length c0_0, .slice A0_1 l0_1.length c0_1, .int .i64 a0_2]) (t := 25) ?hr ?_; (case hd => rfl); (case hg => rfl); (case hr => exact zrr); intro gb165 hg w2 hbox hb; have n0_ := zqj (below_step (zrd0 HB.out) hb); have n1_ := zqj (hbox); have n2_ : Aside0 (w.heap.size ≤ gb165) := ⟨by rw [hg]; exact below_size (zrd0 HB.out)⟩; have n3_ := n2_; clear HB; have HB := n0_; have BK165 := n1_; have GW165 := n2_; have GE165 := n3_; clear n0_ n1_ n2_ n3_; clear hb hbox hg; obtain ⟨hcz3_0, hcz3_1, hcz3_2⟩ := zc3 BK165.out; obtain ⟨hfz3_0, hfz3_1, hfz3_2⟩ := zf3 BK165.out))
 go_loopg [3, 4] k (fun kq v3 v4 w' => ∃ (x3_1 : Int) (x4_1 : Int), v3 = .int .i64 x3_1 ∧ v4 = .int .i64 x4_1 ∧ Aside0 (copyholdref12_Few.l0 kq x3_1 x4_1 l0_0 l0_1 a0_2 = some r) ∧ Aside0 (kq ≤ k) ∧ Aside0 (w'.heap[gb165]? = some (.cells #[(.slice A0_0 l0_0.length c0_0), (.slice A0_1 l0_1.length c0_1), .int .i64 a0_2] 25 (0, 0))) ∧ Aside0 (Below w.heap.size w w'))
 case atStart => exact ⟨(wrap64 ((l0_0.length : Int) + (l0_1.length : Int))), (0), zrt, zrt, H', ⟨Nat.le_refl _⟩, ⟨by (with_reducible repeat (first | refine zqa ?_ _ | refine zqb ?_ | refine zqc ?_ _)); exact BK165.out⟩, ⟨by repeat (first | (with_reducible first | exact HB.out | apply zqg | apply zqe | apply zqf | refine zqd ?_ GE165.out) | exact HB.out)⟩⟩
 case round =>
  clear H'
  ((try clear p2); (try clear hcz3_0); (try clear hcz3_1); (try clear hcz3_2); (try clear hfz3_0); (try clear hfz3_1); (try clear hfz3_2))
  obtain ⟨x3_1, x4_1, rfl, rfl, HA, HK1, BK165, HB⟩ := hrel
  cases gk with
  | zero => exact absurd HA.out (by simp [copyholdref12_Few.l0])
  | succ k1 =>
   (have H := HA.out; clear HA)
   simp only [copyholdref12_Few.l0] at H
   have HC4 := zqj H
   clear H
   go_upto_region 3 with (fail)
   go_cut [21] (fun v21 wc => ∃ (kq : Nat) (x21_3 : Bool), v21 = .bool x21_3 ∧ Aside0 (copyholdref12_Few.j1 kq x3_1 x4_1 x21_3 l0_0 l0_1 a0_2 = some r) ∧ Aside0 (kq ≤ k1) ∧ Aside0 (wc.heap[gb165]? = some (.cells #[(.slice A0_0 l0_0.length c0_0), (.slice A0_1 l0_1.length c0_1), .int .i64 a0_2] 25 (0, 0))) ∧ Aside0 (Below w.heap.size w wc))
   case first =>
    (have H := HC4.out; clear HC4)
    by_cases c5 : x4_1 < (l0_0.length : Int)
    ·rw [if_pos c5] at H
     have c5b0 : decide (x4_1 < (l0_0.length : Int)) = true := decide_eq_true c5
     clear c5
     (first | rw [c5b0] | (simp only [i64_w, i32_w]; rw [c5b0]) | skip)
     have H' := zqj H
     clear H
     obtain ⟨hcz6_0, hcz6_1, hcz6_2⟩ := zc3 BK165.out
     (obtain ⟨hfz6_0, hfz6_1, hfz6_2⟩ := zf3 BK165.out)
     go_wp2
     go_meet
     case rel => exact ⟨_, (decide (x3_1 ≤ 200)), zrt, H', ⟨by have := HK1.out; first | omega | exact Nat.le_refl _⟩, ⟨by (with_reducible repeat (first | refine zqa ?_ _ | refine zqb ?_ | refine zqc ?_ _)); exact BK165.out⟩, ⟨by repeat (first | (with_reducible first | exact HB.out | apply zqg | apply zqe | apply zqf | refine zqd ?_ GE165.out) | exact HB.out)⟩⟩
    ·rw [if_neg c5] at H
     have c5b0 : decide (x4_1 < (l0_0.length : Int)) = false := decide_eq_false c5
     clear c5
     (first | rw [c5b0] | (simp only [i64_w, i32_w]; rw [c5b0]) | skip)
     have H' := zqj H
     clear H
     obtain ⟨hcz7_0, hcz7_1, hcz7_2⟩ := zc3 BK165.out
     (obtain ⟨hfz7_0, hfz7_1, hfz7_2⟩ := zf3 BK165.out)
     go_wp2
     go_meet
     case rel => exact ⟨_, (false), zrt, H', ⟨by have := HK1.out; first | omega | exact Nat.le_refl _⟩, ⟨by (with_reducible repeat (first | refine zqa ?_ _ | refine zqb ?_ | refine zqc ?_ _)); exact BK165.out⟩, ⟨by repeat (first | (with_reducible first | exact HB.out | apply zqg | apply zqe | apply zqf | refine zqd ?_ GE165.out) | exact HB.out)⟩⟩
   case rest =>
    (clear HC4; (try clear p2); (try clear c5); (try clear c5b0); (try clear p6); (try clear hcz3_0); (try clear hcz3_1); (try clear hcz3_2); (try clear hcz6_0); (try clear hcz6_1); (try clear hcz6_2); (try clear hcz7_0); (try clear hcz7_1); (try clear hcz7_2); (try clear hfz3_0); (try clear hfz3_1); (try clear hfz3_2); (try clear hfz6_0); (try clear hfz6_1); (try clear hfz6_2); (try clear hfz7_0); (try clear hfz7_1); (try clear hfz7_2); (try clear p2))
    obtain ⟨kq, x21_3, rfl, HA, HJ3, BK165, HB⟩ := hcut
    cases kq with
    | zero => exact absurd HA.out (by simp [copyholdref12_Few.j1])
    | succ kj3 =>
     (have H := HA.out; clear HA)
     simp only [copyholdref12_Few.j1] at H
     by_cases c8 : x21_3 = true
     ·subst c8
      have H1 : (if 0 ≤ x4_1 then (if x4_1 < (l0_0.length : Int) then (copyholdref12_Few.l1 kj3 (wrap64 (x3_1 + (((rd_T55 l0_0 x4_1).f1).length : Int))) x4_1 0 l0_0 l0_1 a0_2) else (none)) else (none)) = some r := by rw [if_pos rfl] at H; exact H
      clear H
      have H := H1
      clear H1
      by_cases c9 : 0 ≤ x4_1
      ·rw [if_pos c9] at H
       have c9b0 : decide (0 ≤ x4_1) = true := decide_eq_true c9
       clear c9
       by_cases c10 : x4_1 < (l0_0.length : Int)
       ·rw [if_pos c10] at H
        have c10b0 : decide (x4_1 < (l0_0.length : Int)) = true := decide_eq_true c10
        clear c10
        have H' := zqj H
        clear H
        obtain ⟨hcz11_0, hcz11_1, hcz11_2⟩ := zc3 BK165.out
        (obtain ⟨hfz11_0, hfz11_1, hfz11_2⟩ := zf3 BK165.out)
        have p166 : 0 ≤ (x4_1 : Int) := zqh zrs
        have q166 : x4_1 < (l0_0.length : Int) := zqh zrs
        obtain ⟨ad166, A166_1, c166_1, e166, hx166_0, hx166_1, hl166_1, hi166_1⟩ := at_T55 HR0_0.out x4_1 p166 q166
        cases e166
        replace hx166_0 := zx HB.out hx166_0
        replace hx166_1 := zx HB.out hx166_1
        have HR166_1 := zqj hi166_1
        have HC166_1 := zqj hl166_1
        clear hi166_1 hl166_1
        replace p166 := eq_true p166
        replace q166 := eq_true q166
        go_wp2
        go_loopg [3, 5] kj3 (fun kq v3 v5 w' => ∃ (x3_3 : Int) (x5_3 : Int), v3 = .int .i64 x3_3 ∧ v5 = .int .i64 x5_3 ∧ Aside0 (copyholdref12_Few.l1 kq x3_3 x4_1 x5_3 l0_0 l0_1 a0_2 = some r) ∧ Aside0 (kq ≤ kj3) ∧ Aside0 (w'.heap[gb165]? = some (.cells #[(.slice (some ad166) l0_0.length c0_0), (.slice A0_1 l0_1.length c0_1), .int .i64 a0_2] 25 (0, 0))) ∧ Aside0 (Below w.heap.size w w'))
        case atStart => exact ⟨(wrap64 (x3_1 + (((rd_T55 l0_0 x4_1).f1).length : Int))), (0), zrt, zrt, H', ⟨Nat.le_refl _⟩, ⟨by (with_reducible repeat (first | refine zqa ?_ _ | refine zqb ?_ | refine zqc ?_ _)); exact BK165.out⟩, ⟨by repeat (first | (with_reducible first | exact HB.out | apply zqg | apply zqe | apply zqf | refine zqd ?_ GE165.out) | exact HB.out)⟩⟩
        case round =>
         clear H'
         ((try clear c1); (try clear p1); (try clear q1); (try clear hx1); (try clear p2); (try clear c5); (try clear c5b0); (try clear p6); (try clear c8); (try clear c9); (try clear c9b0); (try clear c10); (try clear c10b0); (try clear hcz11_0); (try clear hcz11_1); (try clear hcz11_2); (try clear hcz3_0); (try clear hcz3_1); (try clear hcz3_2); (try clear hcz6_0); (try clear hcz6_1); (try clear hcz6_2); (try clear hcz7_0); (try clear hcz7_1); (try clear hcz7_2); (try clear hfz11_0); (try clear hfz11_1); (try clear hfz11_2); (try clear hfz3_0); (try clear hfz3_1); (try clear hfz3_2); (try clear hfz6_0); (try clear hfz6_1); (try clear hfz6_2); (try clear hfz7_0); (try clear hfz7_1); (try clear hfz7_2); (try clear hx166_0); (try clear hx166_1); (try clear p166); (try clear p2); (try clear p6); (try clear q166))
         obtain ⟨x3_3, x5_3, rfl, rfl, HA, HK3, BK165, HB⟩ := hrel
         cases gk with
         | zero => exact absurd HA.out (by simp [copyholdref12_Few.l1])
         | succ k3 =>
          (have H := HA.out; clear HA)
          simp only [copyholdref12_Few.l1] at H
          have HC12 := zqj H
          clear H
          go_upto_region 7 with (fail)
          go_cut [45] (fun v45 wc => ∃ (kq : Nat) (x45_11 : Bool), v45 = .bool x45_11 ∧ Aside0 (copyholdref12_Few.j3 kq x3_3 x4_1 x5_3 x45_11 l0_0 l0_1 a0_2 = some r) ∧ Aside0 (kq ≤ k3) ∧ Aside0 (wc.heap[gb165]? = some (.cells #[(.slice (some ad166) l0_0.length c0_0), (.slice A0_1 l0_1.length c0_1), .int .i64 a0_2] 25 (0, 0))) ∧ Aside0 (Below w.heap.size w wc))
          case first =>
           (have H := HC12.out; clear HC12)
           by_cases c13 : 0 ≤ x4_1
           ·rw [if_pos c13] at H
            have c13b0 : decide (0 ≤ x4_1) = true := decide_eq_true c13
            clear c13
            (first | rw [c13b0] | (simp only [i64_w, i32_w]; rw [c13b0]) | skip)
            by_cases c14 : x4_1 < (l0_0.length : Int)
            ·rw [if_pos c14] at H
             have c14b0 : decide (x4_1 < (l0_0.length : Int)) = true := decide_eq_true c14
             clear c14
             by_cases c15 : x5_3 < (((rd_T55 l0_0 x4_1).f1).length : Int)
             ·rw [if_pos c15] at H
              have c15b0 : decide (x5_3 < (((rd_T55 l0_0 x4_1).f1).length : Int)) = true := decide_eq_true c15
              clear c15
              have H' := zqj H
              clear H
              obtain ⟨hcz16_0, hcz16_1, hcz16_2⟩ := zc3 BK165.out
              (obtain ⟨hfz16_0, hfz16_1, hfz16_2⟩ := zf3 BK165.out)
              have p167 : 0 ≤ (x4_1 : Int) := zqh zrs
              have q167 : x4_1 < (l0_0.length : Int) := zqh zrs
              obtain ⟨ad167, A167_1, c167_1, e167, hx167_0, hx167_1, hl167_1, hi167_1⟩ := at_T55 HR0_0.out x4_1 p167 q167
              obtain rfl : ad166 = ad167 := (by injection e167)
              replace hx167_0 := zx HB.out hx167_0
              replace hx167_1 := zx HB.out hx167_1
              have HR167_1 := zqj hi167_1
              have HC167_1 := zqj hl167_1
              clear hi167_1 hl167_1
              replace p167 := eq_true p167
              replace q167 := eq_true q167
              go_wp2
              go_meet
              case rel => exact ⟨_, (decide (x3_3 ≤ 200)), zrt, H', ⟨by have := HK1.out; have := HJ3.out; have := HK3.out; first | omega | exact Nat.le_refl _⟩, ⟨by (with_reducible repeat (first | refine zqa ?_ _ | refine zqb ?_ | refine zqc ?_ _)); exact BK165.out⟩, ⟨by repeat (first | (with_reducible first | exact HB.out | apply zqg | apply zqe | apply zqf | refine zqd ?_ GE165.out) | exact HB.out)⟩⟩
             ·rw [if_neg c15] at H
              have c15b0 : decide (x5_3 < (((rd_T55 l0_0 x4_1).f1).length : Int)) = false := decide_eq_false c15
              clear c15
              have H' := zqj H
              clear H
              obtain ⟨hcz17_0, hcz17_1, hcz17_2⟩ := zc3 BK165.out
              (obtain ⟨hfz17_0, hfz17_1, hfz17_2⟩ := zf3 BK165.out)
              have p167 : 0 ≤ (x4_1 : Int) := zqh zrs
              have q167 : x4_1 < (l0_0.length : Int) := zqh zrs
              obtain ⟨ad167, A167_1, c167_1, e167, hx167_0, hx167_1, hl167_1, hi167_1⟩ := at_T55 HR0_0.out x4_1 p167 q167
              obtain rfl : ad166 = ad167 := (by injection e167)
              replace hx167_0 := zx HB.out hx167_0
              replace hx167_1 := zx HB.out hx167_1
              have HR167_1 := zqj hi167_1
              have HC167_1 := zqj hl167_1
              clear hi167_1 hl167_1
              replace p167 := eq_true p167
              replace q167 := eq_true q167
              go_wp2
              go_meet
              case rel => exact ⟨_, (false), zrt, H', ⟨by have := HK1.out; have := HJ3.out; have := HK3.out; first | omega | exact Nat.le_refl _⟩, ⟨by (with_reducible repeat (first | refine zqa ?_ _ | refine zqb ?_ | refine zqc ?_ _)); exact BK165.out⟩, ⟨by repeat (first | (with_reducible first | exact HB.out | apply zqg | apply zqe | apply zqf | refine zqd ?_ GE165.out) | exact HB.out)⟩⟩
            ·rw [if_neg c14] at H
             exact absurd H (by simp)
           ·rw [if_neg c13] at H
            exact absurd H (by simp)
          case rest =>
           (clear HC12; (try clear c1); (try clear p1); (try clear q1); (try clear hx1); (try clear p2); (try clear c5); (try clear c5b0); (try clear p6); (try clear c8); (try clear c9); (try clear c9b0); (try clear c10); (try clear c10b0); (try clear c13); (try clear c13b0); (try clear c14); (try clear c14b0); (try clear c15); (try clear c15b0); (try clear c16); (try clear p16); (try clear q16); (try clear hx16); (try clear hcz11_0); (try clear hcz11_1); (try clear hcz11_2); (try clear hcz16_0); (try clear hcz16_1); (try clear hcz16_2); (try clear hcz17_0); (try clear hcz17_1); (try clear hcz17_2); (try clear hcz3_0); (try clear hcz3_1); (try clear hcz3_2); (try clear hcz6_0); (try clear hcz6_1); (try clear hcz6_2); (try clear hcz7_0); (try clear hcz7_1); (try clear hcz7_2); (try clear hfz11_0); (try clear hfz11_1); (try clear hfz11_2); (try clear hfz16_0); (try clear hfz16_1); (try clear hfz16_2); (try clear hfz17_0); (try clear hfz17_1); (try clear hfz17_2); (try clear hfz3_0); (try clear hfz3_1); (try clear hfz3_2); (try clear hfz6_0); (try clear hfz6_1); (try clear hfz6_2); (try clear hfz7_0); (try clear hfz7_1); (try clear hfz7_2); (try clear hx166_0); (try clear hx166_1); (try clear hx167_0); (try clear hx167_1); (try clear p1); (try clear p166); (try clear p167); (try clear p2); (try clear p6); (try clear q1); (try clear q166); (try clear q167))
           obtain ⟨kq, x45_11, rfl, HA, HJ11, BK165, HB⟩ := hcut
           cases kq with
           | zero => exact absurd HA.out (by simp [copyholdref12_Few.j3])
           | succ kj11 =>
            (have H := HA.out; clear HA)
            simp only [copyholdref12_Few.j3] at H
            by_cases c18 : x45_11 = true
            ·subst c18
             have H1 : (if 0 ≤ x4_1 then (if x4_1 < (l0_0.length : Int) then (if 0 ≤ x5_3 then (if x5_3 < (((rd_T55 l0_0 x4_1).f1).length : Int) then (if (((rd_T58 ((rd_T55 l0_0 x4_1).f1) x5_3).f2.f3).size : Int) > 4096 then (some false) else (copyholdref12_Few.l1 kj11 (wrap64 (x3_3 + (((rd_T58 ((rd_T55 l0_0 x4_1).f1) x5_3).f2.f4).length : Int))) x4_1 (wrap64 (x5_3 + 1)) l0_0 l0_1 a0_2)) else (none)) else (none)) else (none)) else (none)) = some r := by rw [if_pos rfl] at H; exact H
             clear H
             have H := H1
             clear H1
             by_cases c19 : 0 ≤ x4_1
             ·rw [if_pos c19] at H
              have c19b0 : decide (0 ≤ x4_1) = true := decide_eq_true c19
              clear c19
              by_cases c20 : x4_1 < (l0_0.length : Int)
              ·rw [if_pos c20] at H
               have c20b0 : decide (x4_1 < (l0_0.length : Int)) = true := decide_eq_true c20
               clear c20
               by_cases c21 : 0 ≤ x5_3
               ·rw [if_pos c21] at H
                have c21b0 : decide (0 ≤ x5_3) = true := decide_eq_true c21
                clear c21
                by_cases c22 : x5_3 < (((rd_T55 l0_0 x4_1).f1).length : Int)
                ·rw [if_pos c22] at H
                 have c22b0 : decide (x5_3 < (((rd_T55 l0_0 x4_1).f1).length : Int)) = true := decide_eq_true c22
                 clear c22
                 by_cases c23 : (((rd_T58 ((rd_T55 l0_0 x4_1).f1) x5_3).f2.f3).size : Int) > 4096
                 ·rw [if_pos c23] at H
                  have c23b0 : decide (4096 < (((rd_T58 ((rd_T55 l0_0 x4_1).f1) x5_3).f2.f3).size : Int)) = true := decide_eq_true c23
                  have c23b1 : decide (4096 < ((rd_T58 ((rd_T55 l0_0 x4_1).f1) x5_3).f2.f3).size) = true := decide_eq_true (by omega)
                  clear c23
                  obtain rfl := Option.some.inj H
                  obtain ⟨hcz24_0, hcz24_1, hcz24_2⟩ := zc3 BK165.out
                  (obtain ⟨hfz24_0, hfz24_1, hfz24_2⟩ := zf3 BK165.out)
                  have p168 : 0 ≤ (x4_1 : Int) := zqh zrs
                  have q168 : x4_1 < (l0_0.length : Int) := zqh zrs
                  obtain ⟨ad168, A168_1, c168_1, e168, hx168_0, hx168_1, hl168_1, hi168_1⟩ := at_T55 HR0_0.out x4_1 p168 q168
                  obtain rfl : ad166 = ad168 := (by injection e168)
                  replace hx168_0 := zx HB.out hx168_0
                  replace hx168_1 := zx HB.out hx168_1
                  have HR168_1 := zqj hi168_1
                  have HC168_1 := zqj hl168_1
                  clear hi168_1 hl168_1
                  replace p168 := eq_true p168
                  replace q168 := eq_true q168
                  have p169 : 0 ≤ (x5_3 : Int) := zqh zrs
                  have q169 : x5_3 < (((rd_T55 l0_0 x4_1).f1).length : Int) := zqh zrs
                  obtain ⟨ad169, A169_6, c169_6, e169, hx169_0, hx169_1, hx169_2, hx169_3, hx169_4, hx169_5, hx169_6, hl169_6, hi169_6⟩ := at_T58 HR168_1.out x5_3 p169 q169
                  cases e169
                  replace hx169_0 := zx HB.out hx169_0
                  replace hx169_1 := zx HB.out hx169_1
                  replace hx169_2 := zx HB.out hx169_2
                  replace hx169_3 := zx HB.out hx169_3
                  replace hx169_4 := zx HB.out hx169_4
                  replace hx169_5 := zx HB.out hx169_5
                  replace hx169_6 := zx HB.out hx169_6
                  have HR169_6 := zqj hi169_6
                  have HC169_6 := zqj hl169_6
                  clear hi169_6 hl169_6
                  replace p169 := eq_true p169
                  replace q169 := eq_true q169
                  have p170 : 0 ≤ (x4_1 : Int) := zqh zrs
                  have q170 : x4_1 < (l0_0.length : Int) := zqh zrs
                  obtain ⟨ad170, A170_1, c170_1, e170, hx170_0, hx170_1, hl170_1, hi170_1⟩ := at_T55 HR0_0.out x4_1 p170 q170
                  obtain rfl : ad166 = ad170 := (by injection e170)
                  replace hx170_0 := zx HB.out hx170_0
                  replace hx170_1 := zx HB.out hx170_1
                  have HR170_1 := zqj hi170_1
                  have HC170_1 := zqj hl170_1
                  clear hi170_1 hl170_1
                  replace p170 := eq_true p170
                  replace q170 := eq_true q170
                  have ea_ := Option.some.inj (hx168_1.symm.trans hx170_1)
                  injection ea_ with ea_ en_ ec_
                  (subst ea_; subst ec_; clear en_)
                  have p171 : 0 ≤ (x5_3 : Int) := zqh zrs
                  have q171 : x5_3 < (((rd_T55 l0_0 x4_1).f1).length : Int) := zqh zrs
                  obtain ⟨ad171, A171_6, c171_6, e171, hx171_0, hx171_1, hx171_2, hx171_3, hx171_4, hx171_5, hx171_6, hl171_6, hi171_6⟩ := at_T58 HR170_1.out x5_3 p171 q171
                  cases e171
                  replace hx171_0 := zx HB.out hx171_0
                  replace hx171_1 := zx HB.out hx171_1
                  replace hx171_2 := zx HB.out hx171_2
                  replace hx171_3 := zx HB.out hx171_3
                  replace hx171_4 := zx HB.out hx171_4
                  replace hx171_5 := zx HB.out hx171_5
                  replace hx171_6 := zx HB.out hx171_6
                  have HR171_6 := zqj hi171_6
                  have HC171_6 := zqj hl171_6
                  clear hi171_6 hl171_6
                  replace p171 := eq_true p171
                  replace q171 := eq_true q171
                  go_wp2
                  go_ret
                  exact ⟨zru, by repeat (first | (with_reducible first | exact HB.out | apply zqg | apply zqe | apply zqf | refine zqd ?_ GE165.out) | exact HB.out)⟩
                 ·rw [if_neg c23] at H
                  have c23b0 : decide (4096 < (((rd_T58 ((rd_T55 l0_0 x4_1).f1) x5_3).f2.f3).size : Int)) = false := decide_eq_false c23
                  have c23b1 : decide (4096 < ((rd_T58 ((rd_T55 l0_0 x4_1).f1) x5_3).f2.f3).size) = false := decide_eq_false (by omega)
                  clear c23
                  have H' := zqj H
                  clear H
                  obtain ⟨hcz25_0, hcz25_1, hcz25_2⟩ := zc3 BK165.out
                  (obtain ⟨hfz25_0, hfz25_1, hfz25_2⟩ := zf3 BK165.out)
                  have p168 : 0 ≤ (x4_1 : Int) := zqh zrs
                  have q168 : x4_1 < (l0_0.length : Int) := zqh zrs
                  obtain ⟨ad168, A168_1, c168_1, e168, hx168_0, hx168_1, hl168_1, hi168_1⟩ := at_T55 HR0_0.out x4_1 p168 q168
                  obtain rfl : ad166 = ad168 := (by injection e168)
                  replace hx168_0 := zx HB.out hx168_0
                  replace hx168_1 := zx HB.out hx168_1
                  have HR168_1 := zqj hi168_1
                  have HC168_1 := zqj hl168_1
                  clear hi168_1 hl168_1
                  replace p168 := eq_true p168
                  replace q168 := eq_true q168
                  have p169 : 0 ≤ (x5_3 : Int) := zqh zrs
                  have q169 : x5_3 < (((rd_T55 l0_0 x4_1).f1).length : Int) := zqh zrs
                  obtain ⟨ad169, A169_6, c169_6, e169, hx169_0, hx169_1, hx169_2, hx169_3, hx169_4, hx169_5, hx169_6, hl169_6, hi169_6⟩ := at_T58 HR168_1.out x5_3 p169 q169
                  cases e169
                  replace hx169_0 := zx HB.out hx169_0
                  replace hx169_1 := zx HB.out hx169_1
                  replace hx169_2 := zx HB.out hx169_2
                  replace hx169_3 := zx HB.out hx169_3
                  replace hx169_4 := zx HB.out hx169_4
                  replace hx169_5 := zx HB.out hx169_5
                  replace hx169_6 := zx HB.out hx169_6
                  have HR169_6 := zqj hi169_6
                  have HC169_6 := zqj hl169_6
                  clear hi169_6 hl169_6
                  replace p169 := eq_true p169
                  replace q169 := eq_true q169
                  have p170 : 0 ≤ (x4_1 : Int) := zqh zrs
                  have q170 : x4_1 < (l0_0.length : Int) := zqh zrs
                  obtain ⟨ad170, A170_1, c170_1, e170, hx170_0, hx170_1, hl170_1, hi170_1⟩ := at_T55 HR0_0.out x4_1 p170 q170
                  obtain rfl : ad166 = ad170 := (by injection e170)
                  replace hx170_0 := zx HB.out hx170_0
                  replace hx170_1 := zx HB.out hx170_1
                  have HR170_1 := zqj hi170_1
                  have HC170_1 := zqj hl170_1
                  clear hi170_1 hl170_1
                  replace p170 := eq_true p170
                  replace q170 := eq_true q170
                  have ea_ := Option.some.inj (hx168_1.symm.trans hx170_1)
                  injection ea_ with ea_ en_ ec_
                  (subst ea_; subst ec_; clear en_)
                  have p171 : 0 ≤ (x5_3 : Int) := zqh zrs
                  have q171 : x5_3 < (((rd_T55 l0_0 x4_1).f1).length : Int) := zqh zrs
                  obtain ⟨ad171, A171_6, c171_6, e171, hx171_0, hx171_1, hx171_2, hx171_3, hx171_4, hx171_5, hx171_6, hl171_6, hi171_6⟩ := at_T58 HR170_1.out x5_3 p171 q171
                  cases e171
                  replace hx171_0 := zx HB.out hx171_0
                  replace hx171_1 := zx HB.out hx171_1
                  replace hx171_2 := zx HB.out hx171_2
                  replace hx171_3 := zx HB.out hx171_3
                  replace hx171_4 := zx HB.out hx171_4
                  replace hx171_5 := zx HB.out hx171_5
                  replace hx171_6 := zx HB.out hx171_6
                  have HR171_6 := zqj hi171_6
                  have HC171_6 := zqj hl171_6
                  clear hi171_6 hl171_6
                  replace p171 := eq_true p171
                  replace q171 := eq_true q171
                  go_wp2
                  go_roundg kj11
                  case measure => have := HK1.out; have := HJ3.out; have := HK3.out; have := HJ11.out; omega
                  case rel => exact ⟨(wrap64 (x3_3 + (((rd_T58 ((rd_T55 l0_0 x4_1).f1) x5_3).f2.f4).length : Int))), (wrap64 (x5_3 + 1)), zrt, zrt, H', ⟨by have := HK1.out; have := HJ3.out; have := HK3.out; have := HJ11.out; omega⟩, ⟨by (with_reducible repeat (first | refine zqa ?_ _ | refine zqb ?_ | refine zqc ?_ _)); exact BK165.out⟩, ⟨by repeat (first | (with_reducible first | exact HB.out | apply zqg | apply zqe | apply zqf | refine zqd ?_ GE165.out) | exact HB.out)⟩⟩
                ·rw [if_neg c22] at H
                 exact absurd H (by simp)
               ·rw [if_neg c21] at H
                exact absurd H (by simp)
              ·rw [if_neg c20] at H
               exact absurd H (by simp)
             ·rw [if_neg c19] at H
              exact absurd H (by simp)
            ·replace c18 := Bool.eq_false_iff.mpr c18
             subst c18
             have H1 : (copyholdref12_Few.l0 kj11 x3_3 (wrap64 (x4_1 + 1)) l0_0 l0_1 a0_2) = some r := by rw [if_neg (show ¬ (false = true) by decide)] at H; exact H
             clear H
             have H := H1
             clear H1
             have H' := zqj H
             clear H
             go_wp2
             go_roundg kj11
             case measure => have := HK1.out; have := HJ3.out; have := HK3.out; have := HJ11.out; omega
             case rel => exact ⟨(x3_3), (wrap64 (x4_1 + 1)), zrt, zrt, H', ⟨by have := HK1.out; have := HJ3.out; have := HK3.out; have := HJ11.out; omega⟩, ⟨by (with_reducible repeat (first | refine zqa ?_ _ | refine zqb ?_ | refine zqc ?_ _)); exact BK165.out⟩, ⟨by repeat (first | (with_reducible first | exact HB.out | apply zqg | apply zqe | apply zqf | refine zqd ?_ GE165.out) | exact HB.out)⟩⟩
       ·rw [if_neg c10] at H
        exact absurd H (by simp)
      ·rw [if_neg c9] at H
       exact absurd H (by simp)
     ·replace c8 := Bool.eq_false_iff.mpr c8
      subst c8
      have H1 : (some (decide (x3_1 ≤ 200))) = some r := by rw [if_neg (show ¬ (false = true) by decide)] at H; exact H
      clear H
      have H := H1
      clear H1
      obtain rfl := Option.some.inj H
      go_wp2
      go_ret
      exact ⟨zru, by repeat (first | (with_reducible first | exact HB.out | apply zqg | apply zqe | apply zqf | refine zqd ?_ GE165.out) | exact HB.out)⟩
end Go.Proofs.Ytdkgkiemndlneaa.Q
end

section
namespace Go.Proofs.Ytdkgkiemndlneaa.Q
open Go.RowKit Go.Proofs.YtdkgkiemndlneaaW.PrintWords Go.Proofs.YtdkgkiemndlneaaW.PrintLast Go.Proofs.YtdkgkiemndlneaaW.PrintMore
attribute [local go_sem] max2_int min2_int max_two min_two max_three min_three max_four min_four   -- for this text's walks alone
open Go.Proofs.Ytdkgkiemndlneaa.X
attribute [local go_sem high] Go.Proofs.Ytdkgkiemndlneaa.px_xor_u8 Go.Proofs.Ytdkgkiemndlneaa.px_xor_u16 Go.Proofs.Ytdkgkiemndlneaa.px_xor_u32 Go.Proofs.Ytdkgkiemndlneaa.px_xor_u64
mutual
def copyholdref12_Right.j0 : Nat → Bool → List (S55) → List (S61) → Int → Option (Bool)
 | 0, _, _, _, _ => none
 | k + 1, x15, x173000, x173001, x173002 => if x15 = true then (some false) else (copyholdref12_Right.l0 k 0 x173000 x173001 x173002)
def copyholdref12_Right.l0 : Nat → Int → List (S55) → List (S61) → Int → Option (Bool)
 | 0, _, _, _, _ => none
 | k + 1, x3, x173000, x173001, x173002 => if x3 < (x173000.length : Int) then (if 0 ≤ x3 then ((copyholdref12_chain.f ((rd_T55 x173000 x3).f0) ((rd_T55 x173000 x3).f1) x173002).bind fun t174 => (if t174 = true then (if x3 > 0 then (if 0 ≤ (wrap64 (x3 - 1)) then (if (wrap64 (x3 - 1)) < (x173000.length : Int) then (if ((rd_T55 x173000 (wrap64 (x3 - 1))).f0) ≥ ((rd_T55 x173000 x3).f0) then (some false) else (copyholdref12_Right.l0 k (wrap64 (x3 + 1)) x173000 x173001 x173002)) else (none)) else (none)) else (copyholdref12_Right.l0 k (wrap64 (x3 + 1)) x173000 x173001 x173002)) else (some false))) else (none)) else (copyholdref12_Right.l1 k 0 x173000 x173001 x173002)
def copyholdref12_Right.l1 : Nat → Int → List (S55) → List (S61) → Int → Option (Bool)
 | 0, _, _, _, _ => none
 | k + 1, x5, x173000, x173001, x173002 => if x5 < (x173001.length : Int) then (if 0 ≤ x5 then (if ((rd_T61 x173001 x5).f0) < 1 then (some false) else (if ((rd_T61 x173001 x5).f0) > x173002 then (some false) else (if ((rd_T61 x173001 x5).f1) < 1 then (some false) else (if x5 > 0 then (if 0 ≤ (wrap64 (x5 - 1)) then (if (wrap64 (x5 - 1)) < (x173001.length : Int) then (if ((rd_T61 x173001 (wrap64 (x5 - 1))).f0) ≥ ((rd_T61 x173001 x5).f0) then (some false) else (copyholdref12_Right.l1 k (wrap64 (x5 + 1)) x173000 x173001 x173002)) else (none)) else (none)) else (copyholdref12_Right.l1 k (wrap64 (x5 + 1)) x173000 x173001 x173002))))) else (none)) else (some true)
end
def copyholdref12_Right.f (k : Nat) (l0_0 : List (S55)) (l0_1 : List (S61)) (a0_2 : Int) : Option (Bool) := if a0_2 < 1 then (copyholdref12_Right.j0 k true l0_0 l0_1 a0_2) else (copyholdref12_Right.j0 k (decide ((l0_1.length : Int) < 1)) l0_0 l0_1 a0_2)
theorem copyholdref12_Right.mono_l : ∀ k, (∀ y0 y1 y2 y3, LeO (copyholdref12_Right.j0 k y0 y1 y2 y3) (copyholdref12_Right.j0 (k + 1) y0 y1 y2 y3)) ∧ (∀ y0 y1 y2 y3, LeO (copyholdref12_Right.l0 k y0 y1 y2 y3) (copyholdref12_Right.l0 (k + 1) y0 y1 y2 y3)) ∧ (∀ y0 y1 y2 y3, LeO (copyholdref12_Right.l1 k y0 y1 y2 y3) (copyholdref12_Right.l1 (k + 1) y0 y1 y2 y3))
 | 0 => ⟨fun _ _ _ _ r h => by simp [copyholdref12_Right.j0] at h, fun _ _ _ _ r h => by simp [copyholdref12_Right.l0] at h, fun _ _ _ _ r h => by simp [copyholdref12_Right.l1] at h⟩
 | k + 1 => by
  obtain ⟨ih0, ih1, ih2⟩ := copyholdref12_Right.mono_l k
  refine ⟨?_, ?_, ?_⟩
  ·intro y0 y1 y2 y3
   unfold copyholdref12_Right.j0
   repeat' first
   | (with_reducible exact ih0 _ _ _ _)
   | (with_reducible exact ih1 _ _ _ _)
   | (with_reducible exact ih2 _ _ _ _)
   | (with_reducible exact LeO.refl _)
   | (with_reducible exact LeO.none _)
   | (with_reducible refine LeO.ite ?_ ?_)
   | (with_reducible refine LeO.bind ?_ (fun _ => ?_))
   | exact ih0 _ _ _ _
   | exact ih1 _ _ _ _
   | exact ih2 _ _ _ _
   | exact LeO.none _
   | refine LeO.ite ?_ ?_
   | refine LeO.bind ?_ (fun _ => ?_)
  ·intro y0 y1 y2 y3
   unfold copyholdref12_Right.l0
   repeat' first
   | (with_reducible exact ih0 _ _ _ _)
   | (with_reducible exact ih1 _ _ _ _)
   | (with_reducible exact ih2 _ _ _ _)
   | (with_reducible exact LeO.refl _)
   | (with_reducible exact LeO.none _)
   | (with_reducible refine LeO.ite ?_ ?_)
   | (with_reducible refine LeO.bind ?_ (fun _ => ?_))
   | exact ih0 _ _ _ _
   | exact ih1 _ _ _ _
   | exact ih2 _ _ _ _
   | exact LeO.none _
   | refine LeO.ite ?_ ?_
   | refine LeO.bind ?_ (fun _ => ?_)
  ·intro y0 y1 y2 y3
   unfold copyholdref12_Right.l1
   repeat' first
   | (with_reducible exact ih0 _ _ _ _)
   | (with_reducible exact ih1 _ _ _ _)
   | (with_reducible exact ih2 _ _ _ _)
   | (with_reducible exact LeO.refl _)
   | (with_reducible exact LeO.none _)
   | (with_reducible refine LeO.ite ?_ ?_)
   | (with_reducible refine LeO.bind ?_ (fun _ => ?_))
   | exact ih0 _ _ _ _
   | exact ih1 _ _ _ _
   | exact ih2 _ _ _ _
   | exact LeO.none _
   | refine LeO.ite ?_ ?_
   | refine LeO.bind ?_ (fun _ => ?_)
theorem copyholdref12_Right.mono : ∀ a0 a1 a2 k, LeO (copyholdref12_Right.f k a0 a1 a2) (copyholdref12_Right.f (k + 1) a0 a1 a2) := by
 intro a0 a1 a2 k
 obtain ⟨ih0, ih1, ih2⟩ := copyholdref12_Right.mono_l k
 unfold copyholdref12_Right.f
 repeat' first
   | (with_reducible exact ih0 _ _ _ _)
   | (with_reducible exact ih1 _ _ _ _)
   | (with_reducible exact ih2 _ _ _ _)
   | (with_reducible exact LeO.refl _)
   | (with_reducible exact LeO.none _)
   | (with_reducible refine LeO.ite ?_ ?_)
   | (with_reducible refine LeO.bind ?_ (fun _ => ?_))
   | exact ih0 _ _ _ _
   | exact ih1 _ _ _ _
   | exact ih2 _ _ _ _
   | exact LeO.none _
   | refine LeO.ite ?_ ?_
   | refine LeO.bind ?_ (fun _ => ?_)
def copyholdref12_Right.T6 : Bool × List (List Nat × List Nat) := (true, [([], []), ([0], [0]), ([], []), ([1, 2], [1, 2]), ([3], [3]), ([], []), ([5], [5]), ([4, 6], [4, 6]), ([7, 7, 0, 1, 2, 3, 4, 5, 6, 7], [7])])
def copyholdref12_Right.B6 : List Nat := [0, 1, 0, 7, 15, 0, 32, 127, 255]
theorem copyholdref12_Right.tab6 : rtab .any (opsOf Try.f10 6) = copyholdref12_Right.T6 := by kernel_rfl
theorem copyholdref12_Right.bits6 : waitsOk copyholdref12_Right.T6.2 copyholdref12_Right.B6 = true := by kernel_rfl
def copyholdref12_Right.T7 : Bool × List (List Nat × List Nat) := (true, [([], []), ([0], [0]), ([1], [1]), ([2], [2]), ([3, 2], [2, 3]), ([4, 2, 2], [2, 4]), ([5], [5]), ([6, 5], [5, 6]), ([5], [5]), ([8, 5], [5, 8]), ([7, 9, 5], [5, 7, 9]), ([10, 5], [5, 10]), ([11, 5], [5, 11]), ([5], [5]), ([13, 5], [5, 13]), ([5], [5]), ([14, 15, 5], [5, 14, 15]), ([16, 5], [5, 16]), ([17, 5], [5, 17]), ([12, 18, 5], [5, 12, 18]), ([5, 19, 2], [2, 5, 19]), ([2, 20], [2, 20])])
def copyholdref12_Right.B7 : List Nat := [0, 1, 3, 7, 15, 31, 63, 127, 63, 319, 1023, 2047, 4095, 63, 8255, 63, 57407, 122943, 254015, 524287, 1048575, 2097151]
theorem copyholdref12_Right.tab7 : rtab .any (opsOf Try.f10 7) = copyholdref12_Right.T7 := by kernel_rfl
theorem copyholdref12_Right.bits7 : waitsOk copyholdref12_Right.T7.2 copyholdref12_Right.B7 = true := by kernel_rfl
def copyholdref12_Right.T13 : Bool × List (List Nat × List Nat) := (true, [([], []), ([0], [0]), ([1], [1]), ([2], [2]), ([3], [3]), ([4, 3], [3, 4]), ([3], [3]), ([6, 3], [3, 6]), ([5, 7, 3], [3, 5, 7]), ([3, 8], [3, 8]), ([9, 3], [9]), ([10], [10]), ([11, 10], [10, 11]), ([12, 10], [10, 12]), ([10, 13], [10, 13]), ([14, 10], [14]), ([15], [15]), ([16, 15], [15, 16]), ([17, 15, 15], [15, 17]), ([18], [18]), ([19, 18], [18, 19]), ([18], [18]), ([21, 18], [18, 21]), ([20, 22, 18], [18, 20, 22]), ([23, 18], [18, 23]), ([24, 18], [18, 24]), ([18], [18]), ([26, 18], [18, 26]), ([25, 27, 18], [18, 25, 27]), ([18, 28, 15], [15, 18, 28]), ([15, 29], [15, 29])])
def copyholdref12_Right.B13 : List Nat := [0, 1, 3, 7, 15, 31, 15, 79, 255, 511, 1023, 2047, 4095, 8191, 16383, 32767, 65535, 131071, 262143, 524287, 1048575, 524287, 2621439, 8388607, 16777215, 33554431, 524287, 67633151, 268435455, 536870911, 1073741823]
theorem copyholdref12_Right.tab13 : rtab .any (opsOf Try.f10 13) = copyholdref12_Right.T13 := by kernel_rfl
theorem copyholdref12_Right.bits13 : waitsOk copyholdref12_Right.T13.2 copyholdref12_Right.B13 = true := by kernel_rfl
set_option maxHeartbeats 8000000 in
set_option maxRecDepth 100000 in
theorem copyholdref12_Right.calls (k : Nat) (A0_0 : Option Addr) (c0_0 : Nat) (l0_0 : List (S55)) (A0_1 : Option Addr) (c0_1 : Nat) (l0_1 : List (S61)) (a0_2 : Int) (r : Bool) (w : World) (hr0_0 : Kd.C k55 w A0_0 l0_0.length l0_0) (hc0_0 : l0_0.length ≤ c0_0) (hr0_1 : Kd.C k61 w A0_1 l0_1.length l0_1) (hc0_1 : l0_1.length ≤ c0_1) (h : copyholdref12_Right.f k l0_0 l0_1 a0_2 = some r) :
  Calls Try.prog 10 #[.agg #[.slice A0_0 l0_0.length c0_0, .slice A0_1 l0_1.length c0_1, .int .i64 a0_2]] w fun e w' => e = .returned (.bool r) ∧ Below w.heap.size w w' := by
 have hu25 := Try.underlying25
 have hu55 := Try.underlying55
 have hu61 := Try.underlying61
 have HR0_0 := zqj hr0_0
 have HC0_0 := zqj hc0_0
 clear hr0_0 hc0_0
 have HR0_1 := zqj hr0_1
 have HC0_1 := zqj hc0_1
 clear hr0_1 hc0_1
 have HB := zqj (Below.refl w.heap.size w)
 have H : (if a0_2 < 1 then (copyholdref12_Right.j0 k true l0_0 l0_1 a0_2) else (copyholdref12_Right.j0 k (decide ((l0_1.length : Int) < 1)) l0_0 l0_1 a0_2)) = some r := h
 clear h
 have HC2 := zqj H
 clear H
 go_enter Try.func10, Try.ntmps10
 go_upto_region 1 with (first | ((with_reducible refine gate_dst (N := 1) rfl ?_); (try (refine gate_guard (by rfl) ?_; dsimp only)); refine box_event ?hg (N := 1) ?hd (cs := #[.slice A0_0 l0_0.length c0_0, .slice A0_1 l0_1.length c0_1, .int .i64 a0_2]) (t := 25) ?hr ?_; (case hd => rfl); (case hg => rfl); (case hr => exact zrr); intro gb172 hg w3 hbox hb; have n0_ := zqj (below_step (zrd0 HB.out) hb); have n1_ := zqj (hbox); have n2_ : Aside0 (w.heap.size ≤ gb172) := ⟨by rw [hg]; exact below_size (zrd0 HB.out)⟩; have n3_ := n2_; clear HB; have HB := n0_; have BK172 := n1_; have GW172 := n2_; have GE172 := n3_; clear n0_ n1_ n2_ n3_; clear hb hbox hg))
 (try simp only [Act.put, zqk, zql, zqm])
 go_cut [15] (fun v15 wc => ∃ (kq : Nat) (x15_1 : Bool), v15 = .bool x15_1 ∧ Aside0 (copyholdref12_Right.j0 kq x15_1 l0_0 l0_1 a0_2 = some r) ∧ Aside0 (kq ≤ k) ∧ Aside0 (wc.heap[gb172]? = some (.cells #[(.slice A0_0 l0_0.length c0_0), (.slice A0_1 l0_1.length c0_1), .int .i64 a0_2] 25 (0, 0))) ∧ Aside0 (Below w.heap.size w wc))
 case first =>
  (have H := HC2.out; clear HC2)
  by_cases c4 : a0_2 < 1
  ·rw [if_pos c4] at H
   have c4b0 : decide (a0_2 < 1) = true := decide_eq_true c4
   clear c4
   (first | rw [c4b0] | (simp only [i64_w, i32_w]; rw [c4b0]) | skip)
   have H' := zqj H
   clear H
   obtain ⟨hcz5_0, hcz5_1, hcz5_2⟩ := zc3 BK172.out
   (obtain ⟨hfz5_0, hfz5_1, hfz5_2⟩ := zf3 BK172.out)
   go_wp2
   go_meet
   case rel => exact ⟨_, (true), zrt, H', ⟨by first | omega | exact Nat.le_refl _⟩, ⟨by (with_reducible repeat (first | refine zqa ?_ _ | refine zqb ?_ | refine zqc ?_ _)); exact BK172.out⟩, ⟨by repeat (first | (with_reducible first | exact HB.out | apply zqg | apply zqe | apply zqf | refine zqd ?_ GE172.out) | exact HB.out)⟩⟩
  ·rw [if_neg c4] at H
   have c4b0 : decide (a0_2 < 1) = false := decide_eq_false c4
   clear c4
   (first | rw [c4b0] | (simp only [i64_w, i32_w]; rw [c4b0]) | skip)
   have H' := zqj H
   clear H
   obtain ⟨hcz6_0, hcz6_1, hcz6_2⟩ := zc3 BK172.out
   (obtain ⟨hfz6_0, hfz6_1, hfz6_2⟩ := zf3 BK172.out)
   go_wp2
   go_meet
   case rel => exact ⟨_, (decide ((l0_1.length : Int) < 1)), zrt, H', ⟨by first | omega | exact Nat.le_refl _⟩, ⟨by (with_reducible repeat (first | refine zqa ?_ _ | refine zqb ?_ | refine zqc ?_ _)); exact BK172.out⟩, ⟨by repeat (first | (with_reducible first | exact HB.out | apply zqg | apply zqe | apply zqf | refine zqd ?_ GE172.out) | exact HB.out)⟩⟩
 case rest =>
  (clear HC2; (try clear c1); (try clear p2); (try clear c4); (try clear c4b0); (try clear hcz5_0); (try clear hcz5_1); (try clear hcz5_2); (try clear hcz6_0); (try clear hcz6_1); (try clear hcz6_2); (try clear hfz5_0); (try clear hfz5_1); (try clear hfz5_2); (try clear hfz6_0); (try clear hfz6_1); (try clear hfz6_2))
  obtain ⟨kq, x15_1, rfl, HA, HJ1, BK172, HB⟩ := hcut
  cases kq with
  | zero => exact absurd HA.out (by simp [copyholdref12_Right.j0])
  | succ kj1 =>
   (have H := HA.out; clear HA)
   simp only [copyholdref12_Right.j0] at H
   by_cases c7 : x15_1 = true
   ·subst c7
    have H1 : (some false) = some r := by rw [if_pos rfl] at H; exact H
    clear H
    have H := H1
    clear H1
    obtain rfl := Option.some.inj H
    go_wp2
    go_ret
    exact ⟨zru, by repeat (first | (with_reducible first | exact HB.out | apply zqg | apply zqe | apply zqf | refine zqd ?_ GE172.out) | exact HB.out)⟩
   ·replace c7 := Bool.eq_false_iff.mpr c7
    subst c7
    have H1 : (copyholdref12_Right.l0 kj1 0 l0_0 l0_1 a0_2) = some r := by rw [if_neg (show ¬ (false = true) by decide)] at H; exact H
    clear H
    have H := H1
    clear H1
    have H' := zqj H
    clear H
    go_wp2
    go_loopg [3] kj1 (fun kq v3 w' => ∃ (x3_2 : Int), v3 = .int .i64 x3_2 ∧ Aside0 (copyholdref12_Right.l0 kq x3_2 l0_0 l0_1 a0_2 = some r) ∧ Aside0 (kq ≤ kj1) ∧ Aside0 (w'.heap[gb172]? = some (.cells #[(.slice A0_0 l0_0.length c0_0), (.slice A0_1 l0_1.length c0_1), .int .i64 a0_2] 25 (0, 0))) ∧ Aside0 (Below w.heap.size w w'))
    case atStart => exact ⟨(0), zrt, H', ⟨Nat.le_refl _⟩, ⟨by (with_reducible repeat (first | refine zqa ?_ _ | refine zqb ?_ | refine zqc ?_ _)); exact BK172.out⟩, ⟨by repeat (first | (with_reducible first | exact HB.out | apply zqg | apply zqe | apply zqf | refine zqd ?_ GE172.out) | exact HB.out)⟩⟩
    case round =>
     clear H'
     ((try clear c1); (try clear p2); (try clear c4); (try clear c4b0); (try clear c7); (try clear hcz5_0); (try clear hcz5_1); (try clear hcz5_2); (try clear hcz6_0); (try clear hcz6_1); (try clear hcz6_2); (try clear hfz5_0); (try clear hfz5_1); (try clear hfz5_2); (try clear hfz6_0); (try clear hfz6_1); (try clear hfz6_2); (try clear p2))
     obtain ⟨x3_2, rfl, HA, HK2, BK172, HB⟩ := hrel
     cases gk with
     | zero => exact absurd HA.out (by simp [copyholdref12_Right.l0])
     | succ k2 =>
      (have H := HA.out; clear HA)
      simp only [copyholdref12_Right.l0] at H
      by_cases c8 : x3_2 < (l0_0.length : Int)
      ·rw [if_pos c8] at H
       have c8b0 : decide (x3_2 < (l0_0.length : Int)) = true := decide_eq_true c8
       clear c8
       by_cases c9 : 0 ≤ x3_2
       ·rw [if_pos c9] at H
        have c9b0 : decide (0 ≤ x3_2) = true := decide_eq_true c9
        clear c9
        replace H := zqn H
        obtain ⟨t174, A100, H⟩ := H
        replace H : (if t174 = true then (if x3_2 > 0 then (if 0 ≤ (wrap64 (x3_2 - 1)) then (if (wrap64 (x3_2 - 1)) < (l0_0.length : Int) then (if ((rd_T55 l0_0 (wrap64 (x3_2 - 1))).f0) ≥ ((rd_T55 l0_0 x3_2).f0) then (some false) else (copyholdref12_Right.l0 k2 (wrap64 (x3_2 + 1)) l0_0 l0_1 a0_2)) else (none)) else (none)) else (copyholdref12_Right.l0 k2 (wrap64 (x3_2 + 1)) l0_0 l0_1 a0_2)) else (some false)) = some r := H
        have A10 := zqj A100
        clear A100
        by_cases c11 : t174 = true
        ·subst c11
         have H1 : (if x3_2 > 0 then (if 0 ≤ (wrap64 (x3_2 - 1)) then (if (wrap64 (x3_2 - 1)) < (l0_0.length : Int) then (if ((rd_T55 l0_0 (wrap64 (x3_2 - 1))).f0) ≥ ((rd_T55 l0_0 x3_2).f0) then (some false) else (copyholdref12_Right.l0 k2 (wrap64 (x3_2 + 1)) l0_0 l0_1 a0_2)) else (none)) else (none)) else (copyholdref12_Right.l0 k2 (wrap64 (x3_2 + 1)) l0_0 l0_1 a0_2)) = some r := by rw [if_pos rfl] at H; exact H
         clear H
         have H := H1
         clear H1
         by_cases c12 : x3_2 > 0
         ·rw [if_pos c12] at H
          have c12b0 : decide (0 < x3_2) = true := decide_eq_true c12
          clear c12
          obtain ⟨ji13, hji13⟩ : ∃ j_ : Int, (wrap64 (x3_2 - 1)) = j_ := ⟨_, rfl⟩
          replace H : (if 0 ≤ (ji13) then (if (ji13) < (l0_0.length : Int) then (if ((rd_T55 l0_0 (ji13)).f0) ≥ ((rd_T55 l0_0 x3_2).f0) then (some false) else (copyholdref12_Right.l0 k2 (wrap64 (x3_2 + 1)) l0_0 l0_1 a0_2)) else (none)) else (none)) = some r := by first | (rw [hji13] at H; exact H) | (simp only [hji13] at H ⊢; exact H)
          (try rw [hji13] at A10)
          have hji13w : (IntKind.i64.wrap (x3_2 - 1)) = ji13 := (i64_w _).trans hji13
          by_cases c14 : 0 ≤ (ji13)
          ·rw [if_pos c14] at H
           have c14b0 : decide (0 ≤ (ji13)) = true := decide_eq_true c14
           clear c14
           by_cases c15 : (ji13) < (l0_0.length : Int)
           ·rw [if_pos c15] at H
            have c15b0 : decide ((ji13) < (l0_0.length : Int)) = true := decide_eq_true c15
            clear c15
            by_cases c16 : ((rd_T55 l0_0 (ji13)).f0) ≥ ((rd_T55 l0_0 x3_2).f0)
            ·rw [if_pos c16] at H
             have c16b0 : decide (((rd_T55 l0_0 x3_2).f0) ≤ ((rd_T55 l0_0 (ji13)).f0)) = true := decide_eq_true c16
             clear c16
             obtain rfl := Option.some.inj H
             obtain ⟨hcz17_0, hcz17_1, hcz17_2⟩ := zc3 BK172.out
             (obtain ⟨hfz17_0, hfz17_1, hfz17_2⟩ := zf3 BK172.out)
             try go_wp2
             replace BK172 := zqj (zqb BK172.out); replace HB := zqj (zqf HB.out)
             have p173 : 0 ≤ (x3_2 : Int) := zqh zrs
             have q173 : x3_2 < (l0_0.length : Int) := zqh zrs
             obtain ⟨ad173, A173_1, c173_1, e173, hx173_0, hx173_1, hl173_1, hi173_1⟩ := at_T55 HR0_0.out x3_2 p173 q173
             have hw173_1 := hx173_1
             have hw173_0 := hx173_0
             cases e173
             replace hx173_0 := zx HB.out hx173_0
             replace hx173_1 := zx HB.out hx173_1
             have HR173_1 := zqj hi173_1
             have HC173_1 := zqj hl173_1
             clear hi173_1 hl173_1
             replace p173 := eq_true p173
             replace q173 := eq_true q173
             refine start_ (n := 9) (S := fun w' => w'.cell? ⟨gb172, 0, none⟩ = some (.slice (some ad173) l0_0.length c0_0) ∧ w'.cell? ⟨gb172, 1, none⟩ = some (.slice A0_1 l0_1.length c0_1) ∧ w'.cell? ⟨gb172, 2, none⟩ = some (.int .i64 a0_2) ∧ w'.cell? (ad173.add ((x3_2).toNat * 2)) = some (.int .i64 ((rd_T55 l0_0 x3_2).f0)) ∧ w'.cell? ⟨(ad173.add ((x3_2).toNat * 2)).block, (ad173.add ((x3_2).toNat * 2)).off + 1, none⟩ = some (.slice A173_1 ((rd_T55 l0_0 x3_2).f1).length c173_1)) (ds := []) #[false, false, false, false, false, false, false, false, false] (by kernel_rfl) rfl rfl ⟨(blk_cell BK172.out 0).trans rfl, (blk_cell BK172.out 1).trans rfl, (blk_cell BK172.out 2).trans rfl, ((HB.out.cell (World.block_lt_of_cell? w _ hw173_0)).trans hw173_0), ((HB.out.cell (World.block_lt_of_cell? w _ hw173_1)).trans hw173_1)⟩ (fun hHeld => ?_); refine with_tabW copyholdref12_Right.tab6 copyholdref12_Right.bits6 (fun HT_ HW_ => ?_)
             generalize wr.drew = w18 at BK172 HB HR173_1 hx173_0 hx173_1 hHeld ⊢
             refine zp 0 23 (zb 9 1) HT_.out ?_
             refine zp 2 25 (zb 9 5) HT_.out ?_
             refine zp 5 28 (zb 9 37) HT_.out ?_
             refine zt 1 24 (zb 9 39) HT_.out HW_.out hHeld ?_
             refine zp 3 26 (zb 9 47) HT_.out ?_
             refine zt 4 27 (zb 9 63) HT_.out HW_.out hHeld ?_
             refine zt 6 29 (zb 9 127) HT_.out HW_.out hHeld ?_
             refine one_ (i := 7) (N := some 30) (zb 9 255) rfl rfl (one_of HT_.out (by kernel_rfl)) (by decide) (fun K hK => ?_)
             refine goes_ Try.func28 (by kernel_rfl) rfl #[.agg #[.int .i64 ((rd_T55 l0_0 x3_2).f0), .slice A173_1 ((rd_T55 l0_0 x3_2).f1).length c173_1], .int .i64 a0_2] (by rfl) rfl rfl zra ?_
             with_reducible refine (copyholdref12_chain.calls ((rd_T55 l0_0 x3_2).f0) _ _ ((rd_T55 l0_0 x3_2).f1) a0_2 true _ ?side1 ?side2 A10.out).mono ?_
             (case side1 => exact zrc (Kd.C_below HR173_1.out HB.out))
             (case side2 => exact HC173_1.out)
             rintro e w19 ⟨rfl, hb⟩
             refine ⟨_, rfl, ?_⟩
             replace BK172 := zqj (blk_below (g := gb172) (o := .cells #[.slice (some ad173) l0_0.length c0_0, .slice A0_1 l0_1.length c0_1, .int .i64 a0_2] 25 (0, 0)) (zrb BK172.out) hb); replace HB := zqj (below_step (zrd1 HB.out GE172.out) hb)
             (try clear hb); (try clear hb2); (try clear hk); (try clear hi)
             refine hK.out _ _ ⟨(blk_cell BK172.out 0).trans rfl, (blk_cell BK172.out 1).trans rfl, (blk_cell BK172.out 2).trans rfl, ((HB.out.cell (World.block_lt_of_cell? w _ hw173_0)).trans hw173_0), ((HB.out.cell (World.block_lt_of_cell? w _ hw173_1)).trans hw173_1)⟩ (fun hHeld => ?_)
             clear hK K
             refine norm_ (a' := ?_) ?_ ?_
             rotate_left
             ·show Act.put _ (some 30) _ = _
              simp only [Act.put, zqk, zql, zqm, i64_w, i32_w]
              rfl
             refine zp 8 4 (zb 9 511) HT_.out ?_
             refine done_ (done_of HT_.out (by kernel_rfl)) ?_
             try go_wp2
             replace BK172 := zqj (zqb BK172.out); replace HB := zqj (zqf HB.out)
             have p175 : 0 ≤ ((ji13) : Int) := zqh zrs
             have q175 : (ji13) < (l0_0.length : Int) := zqh zrs
             obtain ⟨ad175, A175_1, c175_1, e175, hx175_0, hx175_1, hl175_1, hi175_1⟩ := at_T55 HR0_0.out (ji13) p175 q175
             have hw175_1 := hx175_1
             have hw175_0 := hx175_0
             obtain rfl : ad173 = ad175 := (by injection e175)
             replace hx175_0 := zx HB.out hx175_0
             replace hx175_1 := zx HB.out hx175_1
             have HR175_1 := zqj hi175_1
             have HC175_1 := zqj hl175_1
             clear hi175_1 hl175_1
             replace p175 := eq_true p175
             replace q175 := eq_true q175
             have p176 : 0 ≤ (x3_2 : Int) := zqh zrs
             have q176 : x3_2 < (l0_0.length : Int) := zqh zrs
             obtain ⟨ad176, A176_1, c176_1, e176, hx176_0, hx176_1, hl176_1, hi176_1⟩ := at_T55 HR0_0.out x3_2 p176 q176
             have hw176_1 := hx176_1
             have hw176_0 := hx176_0
             obtain rfl : ad173 = ad176 := (by injection e176)
             replace hx176_0 := zx HB.out hx176_0
             replace hx176_1 := zx HB.out hx176_1
             have HR176_1 := zqj hi176_1
             have HC176_1 := zqj hl176_1
             clear hi176_1 hl176_1
             replace p176 := eq_true p176
             replace q176 := eq_true q176
             refine start_ (n := 22) (S := fun w' => w'.cell? ⟨gb172, 0, none⟩ = some (.slice (some ad173) l0_0.length c0_0) ∧ w'.cell? ⟨gb172, 1, none⟩ = some (.slice A0_1 l0_1.length c0_1) ∧ w'.cell? ⟨gb172, 2, none⟩ = some (.int .i64 a0_2) ∧ w'.cell? (ad173.add (((ji13)).toNat * 2)) = some (.int .i64 ((rd_T55 l0_0 (ji13)).f0)) ∧ w'.cell? ⟨(ad173.add (((ji13)).toNat * 2)).block, (ad173.add (((ji13)).toNat * 2)).off + 1, none⟩ = some (.slice A175_1 ((rd_T55 l0_0 (ji13)).f1).length c175_1) ∧ w'.cell? (ad173.add ((x3_2).toNat * 2)) = some (.int .i64 ((rd_T55 l0_0 x3_2).f0)) ∧ w'.cell? ⟨(ad173.add ((x3_2).toNat * 2)).block, (ad173.add ((x3_2).toNat * 2)).off + 1, none⟩ = some (.slice A176_1 ((rd_T55 l0_0 x3_2).f1).length c176_1)) (ds := []) #[false, false, false, false, false, false, false, false, false, false, false, false, false, false, false, false, false, false, false, false, false, false] (by kernel_rfl) rfl rfl ⟨(blk_cell BK172.out 0).trans rfl, (blk_cell BK172.out 1).trans rfl, (blk_cell BK172.out 2).trans rfl, ((HB.out.cell (World.block_lt_of_cell? w _ hw175_0)).trans hw175_0), ((HB.out.cell (World.block_lt_of_cell? w _ hw175_1)).trans hw175_1), ((HB.out.cell (World.block_lt_of_cell? w _ hw176_0)).trans hw176_0), ((HB.out.cell (World.block_lt_of_cell? w _ hw176_1)).trans hw176_1)⟩ (fun hHeld => ?_); refine with_tabW copyholdref12_Right.tab7 copyholdref12_Right.bits7 (fun HT_ HW_ => ?_)
             generalize w19.drew = w20 at BK172 HB HR175_1 HR176_1 hx175_0 hx175_1 hx176_0 hx176_1 hHeld ⊢
             refine zp 0 31 (zb 22 1) HT_.out ?_
             refine zp 1 32 (zb 22 3) HT_.out ?_
             refine zp 2 33 (zb 22 7) HT_.out ?_
             refine zp 3 34 (zb 22 15) HT_.out ?_
             refine zp 4 35 (zb 22 31) HT_.out ?_
             refine zp 5 36 (zb 22 63) HT_.out ?_
             refine zp 6 37 (zb 22 127) HT_.out ?_
             refine zp 8 39 (zb 22 383) HT_.out ?_
             refine zp 9 40 (zb 22 895) HT_.out ?_
             refine zp 13 44 (zb 22 9087) HT_.out ?_
             refine zp 15 46 (zb 22 41855) HT_.out ?_
             refine zt 7 38 (zb 22 41983) HT_.out HW_.out hHeld ?_
             refine zp 10 41 (zb 22 43007) HT_.out ?_
             refine zp 11 42 (zb 22 45055) HT_.out ?_
             refine zt 12 43 (zb 22 49151) HT_.out HW_.out hHeld ?_
             refine zt 14 45 (zb 22 65535) HT_.out HW_.out hHeld ?_
             refine zp 16 47 (zb 22 131071) HT_.out ?_
             refine zp 17 48 (zb 22 262143) HT_.out ?_
             refine zt 18 49 (zb 22 524287) HT_.out HW_.out hHeld ?_
             refine zp 19 50 (zb 22 1048575) HT_.out ?_
             refine zp 20 51 (zb 22 2097151) HT_.out ?_
             refine zp 21 52 (zb 22 4194303) HT_.out ?_
             refine done_ (done_of HT_.out (by kernel_rfl)) ?_
             try go_wp2
             go_ret
             exact ⟨by first | rfl | (simp [errW_none, errW_some] <;> rfl) | (simp only [← hji13]; first | rfl | (simp [errW_none, errW_some] <;> rfl)) | (simp [*, errW_none, errW_some] <;> rfl), by repeat (first | (with_reducible first | exact HB.out | apply zqg | apply zqe | apply zqf | refine zqd ?_ GE172.out) | exact HB.out)⟩
            ·rw [if_neg c16] at H
             have c16b0 : decide (((rd_T55 l0_0 x3_2).f0) ≤ ((rd_T55 l0_0 (ji13)).f0)) = false := decide_eq_false c16
             clear c16
             have H' := zqj H
             clear H
             obtain ⟨hcz21_0, hcz21_1, hcz21_2⟩ := zc3 BK172.out
             (obtain ⟨hfz21_0, hfz21_1, hfz21_2⟩ := zf3 BK172.out)
             try go_wp2
             replace BK172 := zqj (zqb BK172.out); replace HB := zqj (zqf HB.out)
             have p173 : 0 ≤ (x3_2 : Int) := zqh zrs
             have q173 : x3_2 < (l0_0.length : Int) := zqh zrs
             obtain ⟨ad173, A173_1, c173_1, e173, hx173_0, hx173_1, hl173_1, hi173_1⟩ := at_T55 HR0_0.out x3_2 p173 q173
             have hw173_1 := hx173_1
             have hw173_0 := hx173_0
             cases e173
             replace hx173_0 := zx HB.out hx173_0
             replace hx173_1 := zx HB.out hx173_1
             have HR173_1 := zqj hi173_1
             have HC173_1 := zqj hl173_1
             clear hi173_1 hl173_1
             replace p173 := eq_true p173
             replace q173 := eq_true q173
             refine start_ (n := 9) (S := fun w' => w'.cell? ⟨gb172, 0, none⟩ = some (.slice (some ad173) l0_0.length c0_0) ∧ w'.cell? ⟨gb172, 1, none⟩ = some (.slice A0_1 l0_1.length c0_1) ∧ w'.cell? ⟨gb172, 2, none⟩ = some (.int .i64 a0_2) ∧ w'.cell? (ad173.add ((x3_2).toNat * 2)) = some (.int .i64 ((rd_T55 l0_0 x3_2).f0)) ∧ w'.cell? ⟨(ad173.add ((x3_2).toNat * 2)).block, (ad173.add ((x3_2).toNat * 2)).off + 1, none⟩ = some (.slice A173_1 ((rd_T55 l0_0 x3_2).f1).length c173_1)) (ds := []) #[false, false, false, false, false, false, false, false, false] (by kernel_rfl) rfl rfl ⟨(blk_cell BK172.out 0).trans rfl, (blk_cell BK172.out 1).trans rfl, (blk_cell BK172.out 2).trans rfl, ((HB.out.cell (World.block_lt_of_cell? w _ hw173_0)).trans hw173_0), ((HB.out.cell (World.block_lt_of_cell? w _ hw173_1)).trans hw173_1)⟩ (fun hHeld => ?_); refine with_tabW copyholdref12_Right.tab6 copyholdref12_Right.bits6 (fun HT_ HW_ => ?_)
             generalize wr.drew = w22 at BK172 HB HR173_1 hx173_0 hx173_1 hHeld ⊢
             refine zp 0 23 (zb 9 1) HT_.out ?_
             refine zp 2 25 (zb 9 5) HT_.out ?_
             refine zp 5 28 (zb 9 37) HT_.out ?_
             refine zt 1 24 (zb 9 39) HT_.out HW_.out hHeld ?_
             refine zp 3 26 (zb 9 47) HT_.out ?_
             refine zt 4 27 (zb 9 63) HT_.out HW_.out hHeld ?_
             refine zt 6 29 (zb 9 127) HT_.out HW_.out hHeld ?_
             refine one_ (i := 7) (N := some 30) (zb 9 255) rfl rfl (one_of HT_.out (by kernel_rfl)) (by decide) (fun K hK => ?_)
             refine goes_ Try.func28 (by kernel_rfl) rfl #[.agg #[.int .i64 ((rd_T55 l0_0 x3_2).f0), .slice A173_1 ((rd_T55 l0_0 x3_2).f1).length c173_1], .int .i64 a0_2] (by rfl) rfl rfl zra ?_
             with_reducible refine (copyholdref12_chain.calls ((rd_T55 l0_0 x3_2).f0) _ _ ((rd_T55 l0_0 x3_2).f1) a0_2 true _ ?side1 ?side2 A10.out).mono ?_
             (case side1 => exact zrc (Kd.C_below HR173_1.out HB.out))
             (case side2 => exact HC173_1.out)
             rintro e w23 ⟨rfl, hb⟩
             refine ⟨_, rfl, ?_⟩
             replace BK172 := zqj (blk_below (g := gb172) (o := .cells #[.slice (some ad173) l0_0.length c0_0, .slice A0_1 l0_1.length c0_1, .int .i64 a0_2] 25 (0, 0)) (zrb BK172.out) hb); replace HB := zqj (below_step (zrd1 HB.out GE172.out) hb)
             (try clear hb); (try clear hb2); (try clear hk); (try clear hi)
             refine hK.out _ _ ⟨(blk_cell BK172.out 0).trans rfl, (blk_cell BK172.out 1).trans rfl, (blk_cell BK172.out 2).trans rfl, ((HB.out.cell (World.block_lt_of_cell? w _ hw173_0)).trans hw173_0), ((HB.out.cell (World.block_lt_of_cell? w _ hw173_1)).trans hw173_1)⟩ (fun hHeld => ?_)
             clear hK K
             refine norm_ (a' := ?_) ?_ ?_
             rotate_left
             ·show Act.put _ (some 30) _ = _
              simp only [Act.put, zqk, zql, zqm, i64_w, i32_w]
              rfl
             refine zp 8 4 (zb 9 511) HT_.out ?_
             refine done_ (done_of HT_.out (by kernel_rfl)) ?_
             try go_wp2
             replace BK172 := zqj (zqb BK172.out); replace HB := zqj (zqf HB.out)
             have p175 : 0 ≤ ((ji13) : Int) := zqh zrs
             have q175 : (ji13) < (l0_0.length : Int) := zqh zrs
             obtain ⟨ad175, A175_1, c175_1, e175, hx175_0, hx175_1, hl175_1, hi175_1⟩ := at_T55 HR0_0.out (ji13) p175 q175
             have hw175_1 := hx175_1
             have hw175_0 := hx175_0
             obtain rfl : ad173 = ad175 := (by injection e175)
             replace hx175_0 := zx HB.out hx175_0
             replace hx175_1 := zx HB.out hx175_1
             have HR175_1 := zqj hi175_1
             have HC175_1 := zqj hl175_1
             clear hi175_1 hl175_1
             replace p175 := eq_true p175
             replace q175 := eq_true q175
             have p176 : 0 ≤ (x3_2 : Int) := zqh zrs
             have q176 : x3_2 < (l0_0.length : Int) := zqh zrs
             obtain ⟨ad176, A176_1, c176_1, e176, hx176_0, hx176_1, hl176_1, hi176_1⟩ := at_T55 HR0_0.out x3_2 p176 q176
             have hw176_1 := hx176_1
             have hw176_0 := hx176_0
             obtain rfl : ad173 = ad176 := (by injection e176)
             replace hx176_0 := zx HB.out hx176_0
             replace hx176_1 := zx HB.out hx176_1
             have HR176_1 := zqj hi176_1
             have HC176_1 := zqj hl176_1
             clear hi176_1 hl176_1
             replace p176 := eq_true p176
             replace q176 := eq_true q176
             refine start_ (n := 22) (S := fun w' => w'.cell? ⟨gb172, 0, none⟩ = some (.slice (some ad173) l0_0.length c0_0) ∧ w'.cell? ⟨gb172, 1, none⟩ = some (.slice A0_1 l0_1.length c0_1) ∧ w'.cell? ⟨gb172, 2, none⟩ = some (.int .i64 a0_2) ∧ w'.cell? (ad173.add (((ji13)).toNat * 2)) = some (.int .i64 ((rd_T55 l0_0 (ji13)).f0)) ∧ w'.cell? ⟨(ad173.add (((ji13)).toNat * 2)).block, (ad173.add (((ji13)).toNat * 2)).off + 1, none⟩ = some (.slice A175_1 ((rd_T55 l0_0 (ji13)).f1).length c175_1) ∧ w'.cell? (ad173.add ((x3_2).toNat * 2)) = some (.int .i64 ((rd_T55 l0_0 x3_2).f0)) ∧ w'.cell? ⟨(ad173.add ((x3_2).toNat * 2)).block, (ad173.add ((x3_2).toNat * 2)).off + 1, none⟩ = some (.slice A176_1 ((rd_T55 l0_0 x3_2).f1).length c176_1)) (ds := []) #[false, false, false, false, false, false, false, false, false, false, false, false, false, false, false, false, false, false, false, false, false, false] (by kernel_rfl) rfl rfl ⟨(blk_cell BK172.out 0).trans rfl, (blk_cell BK172.out 1).trans rfl, (blk_cell BK172.out 2).trans rfl, ((HB.out.cell (World.block_lt_of_cell? w _ hw175_0)).trans hw175_0), ((HB.out.cell (World.block_lt_of_cell? w _ hw175_1)).trans hw175_1), ((HB.out.cell (World.block_lt_of_cell? w _ hw176_0)).trans hw176_0), ((HB.out.cell (World.block_lt_of_cell? w _ hw176_1)).trans hw176_1)⟩ (fun hHeld => ?_); refine with_tabW copyholdref12_Right.tab7 copyholdref12_Right.bits7 (fun HT_ HW_ => ?_)
             generalize w23.drew = w24 at BK172 HB HR175_1 HR176_1 hx175_0 hx175_1 hx176_0 hx176_1 hHeld ⊢
             refine zp 0 31 (zb 22 1) HT_.out ?_
             refine zp 1 32 (zb 22 3) HT_.out ?_
             refine zp 2 33 (zb 22 7) HT_.out ?_
             refine zp 3 34 (zb 22 15) HT_.out ?_
             refine zp 4 35 (zb 22 31) HT_.out ?_
             refine zp 5 36 (zb 22 63) HT_.out ?_
             refine zp 6 37 (zb 22 127) HT_.out ?_
             refine zp 8 39 (zb 22 383) HT_.out ?_
             refine zp 9 40 (zb 22 895) HT_.out ?_
             refine zp 13 44 (zb 22 9087) HT_.out ?_
             refine zp 15 46 (zb 22 41855) HT_.out ?_
             refine zt 7 38 (zb 22 41983) HT_.out HW_.out hHeld ?_
             refine zp 10 41 (zb 22 43007) HT_.out ?_
             refine zp 11 42 (zb 22 45055) HT_.out ?_
             refine zt 12 43 (zb 22 49151) HT_.out HW_.out hHeld ?_
             refine zt 14 45 (zb 22 65535) HT_.out HW_.out hHeld ?_
             refine zp 16 47 (zb 22 131071) HT_.out ?_
             refine zp 17 48 (zb 22 262143) HT_.out ?_
             refine zt 18 49 (zb 22 524287) HT_.out HW_.out hHeld ?_
             refine zp 19 50 (zb 22 1048575) HT_.out ?_
             refine zp 20 51 (zb 22 2097151) HT_.out ?_
             refine zp 21 52 (zb 22 4194303) HT_.out ?_
             refine done_ (done_of HT_.out (by kernel_rfl)) ?_
             try go_wp2
             go_roundg k2
             case measure => have := HJ1.out; have := HK2.out; omega
             case rel => exact ⟨(wrap64 (x3_2 + 1)), zrt, H', ⟨by have := HJ1.out; have := HK2.out; omega⟩, ⟨by (with_reducible repeat (first | refine zqa ?_ _ | refine zqb ?_ | refine zqc ?_ _)); exact BK172.out⟩, ⟨by repeat (first | (with_reducible first | exact HB.out | apply zqg | apply zqe | apply zqf | refine zqd ?_ GE172.out) | exact HB.out)⟩⟩
           ·rw [if_neg c15] at H
            exact absurd H (by simp)
          ·rw [if_neg c14] at H
           exact absurd H (by simp)
         ·rw [if_neg c12] at H
          have c12b0 : decide (0 < x3_2) = false := decide_eq_false c12
          clear c12
          have H' := zqj H
          clear H
          obtain ⟨hcz25_0, hcz25_1, hcz25_2⟩ := zc3 BK172.out
          (obtain ⟨hfz25_0, hfz25_1, hfz25_2⟩ := zf3 BK172.out)
          try go_wp2
          replace BK172 := zqj (zqb BK172.out); replace HB := zqj (zqf HB.out)
          have p173 : 0 ≤ (x3_2 : Int) := zqh zrs
          have q173 : x3_2 < (l0_0.length : Int) := zqh zrs
          obtain ⟨ad173, A173_1, c173_1, e173, hx173_0, hx173_1, hl173_1, hi173_1⟩ := at_T55 HR0_0.out x3_2 p173 q173
          have hw173_1 := hx173_1
          have hw173_0 := hx173_0
          cases e173
          replace hx173_0 := zx HB.out hx173_0
          replace hx173_1 := zx HB.out hx173_1
          have HR173_1 := zqj hi173_1
          have HC173_1 := zqj hl173_1
          clear hi173_1 hl173_1
          replace p173 := eq_true p173
          replace q173 := eq_true q173
          refine start_ (n := 9) (S := fun w' => w'.cell? ⟨gb172, 0, none⟩ = some (.slice (some ad173) l0_0.length c0_0) ∧ w'.cell? ⟨gb172, 1, none⟩ = some (.slice A0_1 l0_1.length c0_1) ∧ w'.cell? ⟨gb172, 2, none⟩ = some (.int .i64 a0_2) ∧ w'.cell? (ad173.add ((x3_2).toNat * 2)) = some (.int .i64 ((rd_T55 l0_0 x3_2).f0)) ∧ w'.cell? ⟨(ad173.add ((x3_2).toNat * 2)).block, (ad173.add ((x3_2).toNat * 2)).off + 1, none⟩ = some (.slice A173_1 ((rd_T55 l0_0 x3_2).f1).length c173_1)) (ds := []) #[false, false, false, false, false, false, false, false, false] (by kernel_rfl) rfl rfl ⟨(blk_cell BK172.out 0).trans rfl, (blk_cell BK172.out 1).trans rfl, (blk_cell BK172.out 2).trans rfl, ((HB.out.cell (World.block_lt_of_cell? w _ hw173_0)).trans hw173_0), ((HB.out.cell (World.block_lt_of_cell? w _ hw173_1)).trans hw173_1)⟩ (fun hHeld => ?_); refine with_tabW copyholdref12_Right.tab6 copyholdref12_Right.bits6 (fun HT_ HW_ => ?_)
          generalize wr.drew = w26 at BK172 HB HR173_1 hx173_0 hx173_1 hHeld ⊢
          refine zp 0 23 (zb 9 1) HT_.out ?_
          refine zp 2 25 (zb 9 5) HT_.out ?_
          refine zp 5 28 (zb 9 37) HT_.out ?_
          refine zt 1 24 (zb 9 39) HT_.out HW_.out hHeld ?_
          refine zp 3 26 (zb 9 47) HT_.out ?_
          refine zt 4 27 (zb 9 63) HT_.out HW_.out hHeld ?_
          refine zt 6 29 (zb 9 127) HT_.out HW_.out hHeld ?_
          refine one_ (i := 7) (N := some 30) (zb 9 255) rfl rfl (one_of HT_.out (by kernel_rfl)) (by decide) (fun K hK => ?_)
          refine goes_ Try.func28 (by kernel_rfl) rfl #[.agg #[.int .i64 ((rd_T55 l0_0 x3_2).f0), .slice A173_1 ((rd_T55 l0_0 x3_2).f1).length c173_1], .int .i64 a0_2] (by rfl) rfl rfl zra ?_
          with_reducible refine (copyholdref12_chain.calls ((rd_T55 l0_0 x3_2).f0) _ _ ((rd_T55 l0_0 x3_2).f1) a0_2 true _ ?side1 ?side2 A10.out).mono ?_
          (case side1 => exact zrc (Kd.C_below HR173_1.out HB.out))
          (case side2 => exact HC173_1.out)
          rintro e w27 ⟨rfl, hb⟩
          refine ⟨_, rfl, ?_⟩
          replace BK172 := zqj (blk_below (g := gb172) (o := .cells #[.slice (some ad173) l0_0.length c0_0, .slice A0_1 l0_1.length c0_1, .int .i64 a0_2] 25 (0, 0)) (zrb BK172.out) hb); replace HB := zqj (below_step (zrd1 HB.out GE172.out) hb)
          (try clear hb); (try clear hb2); (try clear hk); (try clear hi)
          refine hK.out _ _ ⟨(blk_cell BK172.out 0).trans rfl, (blk_cell BK172.out 1).trans rfl, (blk_cell BK172.out 2).trans rfl, ((HB.out.cell (World.block_lt_of_cell? w _ hw173_0)).trans hw173_0), ((HB.out.cell (World.block_lt_of_cell? w _ hw173_1)).trans hw173_1)⟩ (fun hHeld => ?_)
          clear hK K
          refine norm_ (a' := ?_) ?_ ?_
          rotate_left
          ·show Act.put _ (some 30) _ = _
           simp only [Act.put, zqk, zql, zqm, i64_w, i32_w]
           rfl
          refine zp 8 4 (zb 9 511) HT_.out ?_
          refine done_ (done_of HT_.out (by kernel_rfl)) ?_
          try go_wp2
          replace BK172 := zqj (zqb BK172.out); replace HB := zqj (zqf HB.out)
          refine start_ (n := 22) (S := fun w' => True) (ds := []) #[false, false, false, false, false, false, false, false, false, false, false, false, false, false, false, false, false, false, false, false, false, false] (by kernel_rfl) rfl rfl trivial (fun hHeld => ?_); refine with_tabW copyholdref12_Right.tab7 copyholdref12_Right.bits7 (fun HT_ HW_ => ?_)
          generalize w27.drew = w28 at BK172 HB hHeld ⊢
          refine zp 0 31 (zb 22 1) HT_.out ?_
          refine zp 1 32 (zb 22 3) HT_.out ?_
          refine zp 2 33 (zb 22 7) HT_.out ?_
          refine zp 3 34 (zb 22 15) HT_.out ?_
          refine zp 4 35 (zb 22 31) HT_.out ?_
          refine zp 5 36 (zb 22 63) HT_.out ?_
          refine zq 6 37 (zb 22 127) HT_.out ?_
          refine zq 7 38 (zb 22 255) HT_.out ?_
          refine zq 8 39 (zb 22 511) HT_.out ?_
          refine zq 9 40 (zb 22 1023) HT_.out ?_
          refine zq 10 41 (zb 22 2047) HT_.out ?_
          refine zq 11 42 (zb 22 4095) HT_.out ?_
          refine zq 12 43 (zb 22 8191) HT_.out ?_
          refine zq 13 44 (zb 22 16383) HT_.out ?_
          refine zq 14 45 (zb 22 32767) HT_.out ?_
          refine zq 15 46 (zb 22 65535) HT_.out ?_
          refine zq 16 47 (zb 22 131071) HT_.out ?_
          refine zq 17 48 (zb 22 262143) HT_.out ?_
          refine zq 18 49 (zb 22 524287) HT_.out ?_
          refine zq 19 50 (zb 22 1048575) HT_.out ?_
          refine zp 20 51 (zb 22 2097151) HT_.out ?_
          refine zp 21 52 (zb 22 4194303) HT_.out ?_
          refine done_ (done_of HT_.out (by kernel_rfl)) ?_
          try go_wp2
          go_roundg k2
          case measure => have := HJ1.out; have := HK2.out; omega
          case rel => exact ⟨(wrap64 (x3_2 + 1)), zrt, H', ⟨by have := HJ1.out; have := HK2.out; omega⟩, ⟨by (with_reducible repeat (first | refine zqa ?_ _ | refine zqb ?_ | refine zqc ?_ _)); exact BK172.out⟩, ⟨by repeat (first | (with_reducible first | exact HB.out | apply zqg | apply zqe | apply zqf | refine zqd ?_ GE172.out) | exact HB.out)⟩⟩
        ·replace c11 := Bool.eq_false_iff.mpr c11
         subst c11
         have H1 : (some false) = some r := by rw [if_neg (show ¬ (false = true) by decide)] at H; exact H
         clear H
         have H := H1
         clear H1
         obtain rfl := Option.some.inj H
         obtain ⟨hcz29_0, hcz29_1, hcz29_2⟩ := zc3 BK172.out
         (obtain ⟨hfz29_0, hfz29_1, hfz29_2⟩ := zf3 BK172.out)
         try go_wp2
         replace BK172 := zqj (zqb BK172.out); replace HB := zqj (zqf HB.out)
         have p173 : 0 ≤ (x3_2 : Int) := zqh zrs
         have q173 : x3_2 < (l0_0.length : Int) := zqh zrs
         obtain ⟨ad173, A173_1, c173_1, e173, hx173_0, hx173_1, hl173_1, hi173_1⟩ := at_T55 HR0_0.out x3_2 p173 q173
         have hw173_1 := hx173_1
         have hw173_0 := hx173_0
         cases e173
         replace hx173_0 := zx HB.out hx173_0
         replace hx173_1 := zx HB.out hx173_1
         have HR173_1 := zqj hi173_1
         have HC173_1 := zqj hl173_1
         clear hi173_1 hl173_1
         replace p173 := eq_true p173
         replace q173 := eq_true q173
         refine start_ (n := 9) (S := fun w' => w'.cell? ⟨gb172, 0, none⟩ = some (.slice (some ad173) l0_0.length c0_0) ∧ w'.cell? ⟨gb172, 1, none⟩ = some (.slice A0_1 l0_1.length c0_1) ∧ w'.cell? ⟨gb172, 2, none⟩ = some (.int .i64 a0_2) ∧ w'.cell? (ad173.add ((x3_2).toNat * 2)) = some (.int .i64 ((rd_T55 l0_0 x3_2).f0)) ∧ w'.cell? ⟨(ad173.add ((x3_2).toNat * 2)).block, (ad173.add ((x3_2).toNat * 2)).off + 1, none⟩ = some (.slice A173_1 ((rd_T55 l0_0 x3_2).f1).length c173_1)) (ds := []) #[false, false, false, false, false, false, false, false, false] (by kernel_rfl) rfl rfl ⟨(blk_cell BK172.out 0).trans rfl, (blk_cell BK172.out 1).trans rfl, (blk_cell BK172.out 2).trans rfl, ((HB.out.cell (World.block_lt_of_cell? w _ hw173_0)).trans hw173_0), ((HB.out.cell (World.block_lt_of_cell? w _ hw173_1)).trans hw173_1)⟩ (fun hHeld => ?_); refine with_tabW copyholdref12_Right.tab6 copyholdref12_Right.bits6 (fun HT_ HW_ => ?_)
         generalize wr.drew = w30 at BK172 HB HR173_1 hx173_0 hx173_1 hHeld ⊢
         refine zp 0 23 (zb 9 1) HT_.out ?_
         refine zp 2 25 (zb 9 5) HT_.out ?_
         refine zp 5 28 (zb 9 37) HT_.out ?_
         refine zt 1 24 (zb 9 39) HT_.out HW_.out hHeld ?_
         refine zp 3 26 (zb 9 47) HT_.out ?_
         refine zt 4 27 (zb 9 63) HT_.out HW_.out hHeld ?_
         refine zt 6 29 (zb 9 127) HT_.out HW_.out hHeld ?_
         refine one_ (i := 7) (N := some 30) (zb 9 255) rfl rfl (one_of HT_.out (by kernel_rfl)) (by decide) (fun K hK => ?_)
         refine goes_ Try.func28 (by kernel_rfl) rfl #[.agg #[.int .i64 ((rd_T55 l0_0 x3_2).f0), .slice A173_1 ((rd_T55 l0_0 x3_2).f1).length c173_1], .int .i64 a0_2] (by rfl) rfl rfl zra ?_
         with_reducible refine (copyholdref12_chain.calls ((rd_T55 l0_0 x3_2).f0) _ _ ((rd_T55 l0_0 x3_2).f1) a0_2 false _ ?side1 ?side2 A10.out).mono ?_
         (case side1 => exact zrc (Kd.C_below HR173_1.out HB.out))
         (case side2 => exact HC173_1.out)
         rintro e w31 ⟨rfl, hb⟩
         refine ⟨_, rfl, ?_⟩
         replace BK172 := zqj (blk_below (g := gb172) (o := .cells #[.slice (some ad173) l0_0.length c0_0, .slice A0_1 l0_1.length c0_1, .int .i64 a0_2] 25 (0, 0)) (zrb BK172.out) hb); replace HB := zqj (below_step (zrd1 HB.out GE172.out) hb)
         (try clear hb); (try clear hb2); (try clear hk); (try clear hi)
         refine hK.out _ _ ⟨(blk_cell BK172.out 0).trans rfl, (blk_cell BK172.out 1).trans rfl, (blk_cell BK172.out 2).trans rfl, ((HB.out.cell (World.block_lt_of_cell? w _ hw173_0)).trans hw173_0), ((HB.out.cell (World.block_lt_of_cell? w _ hw173_1)).trans hw173_1)⟩ (fun hHeld => ?_)
         clear hK K
         refine norm_ (a' := ?_) ?_ ?_
         rotate_left
         ·show Act.put _ (some 30) _ = _
          simp only [Act.put, zqk, zql, zqm, i64_w, i32_w]
          rfl
         refine zp 8 4 (zb 9 511) HT_.out ?_
         refine done_ (done_of HT_.out (by kernel_rfl)) ?_
         try go_wp2
         replace BK172 := zqj (zqb BK172.out); replace HB := zqj (zqf HB.out)
         refine start_ (n := 22) (S := fun w' => True) (ds := []) #[false, false, false, false, false, false, false, false, false, false, false, false, false, false, false, false, false, false, false, false, false, false] (by kernel_rfl) rfl rfl trivial (fun hHeld => ?_); refine with_tabW copyholdref12_Right.tab7 copyholdref12_Right.bits7 (fun HT_ HW_ => ?_)
         generalize w31.drew = w32 at BK172 HB hHeld ⊢
         refine zp 0 31 (zb 22 1) HT_.out ?_
         refine zp 1 32 (zb 22 3) HT_.out ?_
         refine zp 2 33 (zb 22 7) HT_.out ?_
         refine zq 3 34 (zb 22 15) HT_.out ?_
         refine zq 4 35 (zb 22 31) HT_.out ?_
         refine zq 5 36 (zb 22 63) HT_.out ?_
         refine zq 6 37 (zb 22 127) HT_.out ?_
         refine zq 7 38 (zb 22 255) HT_.out ?_
         refine zq 8 39 (zb 22 511) HT_.out ?_
         refine zq 9 40 (zb 22 1023) HT_.out ?_
         refine zq 10 41 (zb 22 2047) HT_.out ?_
         refine zq 11 42 (zb 22 4095) HT_.out ?_
         refine zq 12 43 (zb 22 8191) HT_.out ?_
         refine zq 13 44 (zb 22 16383) HT_.out ?_
         refine zq 14 45 (zb 22 32767) HT_.out ?_
         refine zq 15 46 (zb 22 65535) HT_.out ?_
         refine zq 16 47 (zb 22 131071) HT_.out ?_
         refine zq 17 48 (zb 22 262143) HT_.out ?_
         refine zq 18 49 (zb 22 524287) HT_.out ?_
         refine zq 19 50 (zb 22 1048575) HT_.out ?_
         refine zq 20 51 (zb 22 2097151) HT_.out ?_
         refine zp 21 52 (zb 22 4194303) HT_.out ?_
         refine done_ (done_of HT_.out (by kernel_rfl)) ?_
         try go_wp2
         go_ret
         exact ⟨zru, by repeat (first | (with_reducible first | exact HB.out | apply zqg | apply zqe | apply zqf | refine zqd ?_ GE172.out) | exact HB.out)⟩
       ·rw [if_neg c9] at H
        exact absurd H (by simp)
      ·rw [if_neg c8] at H
       have c8b0 : decide (x3_2 < (l0_0.length : Int)) = false := decide_eq_false c8
       clear c8
       have H' := zqj H
       clear H
       obtain ⟨hcz33_0, hcz33_1, hcz33_2⟩ := zc3 BK172.out
       (obtain ⟨hfz33_0, hfz33_1, hfz33_2⟩ := zf3 BK172.out)
       go_wp2
       go_loopg [5] k2 (fun kq v5 w' => ∃ (x5_3 : Int), v5 = .int .i64 x5_3 ∧ Aside0 (copyholdref12_Right.l1 kq x5_3 l0_0 l0_1 a0_2 = some r) ∧ Aside0 (kq ≤ k2) ∧ Aside0 (w'.heap[gb172]? = some (.cells #[(.slice A0_0 l0_0.length c0_0), (.slice A0_1 l0_1.length c0_1), .int .i64 a0_2] 25 (0, 0))) ∧ Aside0 (Below w.heap.size w w'))
       case atStart => exact ⟨(0), zrt, H', ⟨Nat.le_refl _⟩, ⟨by (with_reducible repeat (first | refine zqa ?_ _ | refine zqb ?_ | refine zqc ?_ _)); exact BK172.out⟩, ⟨by repeat (first | (with_reducible first | exact HB.out | apply zqg | apply zqe | apply zqf | refine zqd ?_ GE172.out) | exact HB.out)⟩⟩
       case round =>
        clear H'
        ((try clear c1); (try clear p1); (try clear q1); (try clear hx1); (try clear c2); (try clear p2); (try clear p6); (try clear c8); (try clear c8b0); (try clear c9); (try clear c11); (try clear c12); (try clear c12b0); (try clear c14); (try clear c15); (try clear c17); (try clear p17); (try clear q17); (try clear hx17); (try clear c28); (try clear hcz25_0); (try clear hcz25_1); (try clear hcz25_2); (try clear hcz29_0); (try clear hcz29_1); (try clear hcz29_2); (try clear hcz33_0); (try clear hcz33_1); (try clear hcz33_2); (try clear hfz25_0); (try clear hfz25_1); (try clear hfz25_2); (try clear hfz29_0); (try clear hfz29_1); (try clear hfz29_2); (try clear hfz33_0); (try clear hfz33_1); (try clear hfz33_2); (try clear hx173_0); (try clear hx173_1); (try clear p173); (try clear q173))
        obtain ⟨x5_3, rfl, HA, HK3, BK172, HB⟩ := hrel
        cases gk with
        | zero => exact absurd HA.out (by simp [copyholdref12_Right.l1])
        | succ k3 =>
         (have H := HA.out; clear HA)
         simp only [copyholdref12_Right.l1] at H
         by_cases c34 : x5_3 < (l0_1.length : Int)
         ·rw [if_pos c34] at H
          have c34b0 : decide (x5_3 < (l0_1.length : Int)) = true := decide_eq_true c34
          clear c34
          by_cases c35 : 0 ≤ x5_3
          ·rw [if_pos c35] at H
           have c35b0 : decide (0 ≤ x5_3) = true := decide_eq_true c35
           clear c35
           by_cases c36 : ((rd_T61 l0_1 x5_3).f0) < 1
           ·rw [if_pos c36] at H
            have c36b0 : decide (((rd_T61 l0_1 x5_3).f0) < 1) = true := decide_eq_true c36
            clear c36
            obtain rfl := Option.some.inj H
            obtain ⟨hcz37_0, hcz37_1, hcz37_2⟩ := zc3 BK172.out
            (obtain ⟨hfz37_0, hfz37_1, hfz37_2⟩ := zf3 BK172.out)
            have p177 : 0 ≤ (x5_3 : Int) := zqh zrs
            have q177 : x5_3 < (l0_1.length : Int) := zqh zrs
            obtain ⟨ad177, e177, hx177_0, hx177_1⟩ := at_T61 HR0_1.out x5_3 p177 q177
            cases e177
            replace hx177_0 := zx HB.out hx177_0
            replace hx177_1 := zx HB.out hx177_1
            replace p177 := eq_true p177
            replace q177 := eq_true q177
            try go_wp2_with (first | ((with_reducible refine gate_dst (N := 6) rfl ?_); (try (refine gate_guard (by rfl) ?_; dsimp only)); refine box_event ?hg (N := 6) ?hd (cs := #[.int .i64 0, .int .i64 0]) (t := 61) ?hr ?_; (case hd => rfl); (case hg => rfl); (case hr => exact zrr); intro gb178 hg w38 hbox hb; have n0_ := zqj (blk_below (g := gb172) (o := .cells #[.slice A0_0 l0_0.length c0_0, .slice (some ad177) l0_1.length c0_1, .int .i64 a0_2] 25 (0, 0)) (zrb BK172.out) hb); have n1_ := zqj (below_step (zrd1 HB.out GE172.out) hb); have n2_ := zqj (hbox); have n3_ := zqj ((by rw [hg]; exact (below_size (zrd1 HB.out GE172.out)) : w.heap.size ≤ gb178)); have n4_ := zqj ((by rw [hg]; exact (below_size (zrd1 HB.out GE172.out)) : w.heap.size ≤ gb178)); have n5_ := zqj ((by rw [hg]; exact Nat.ne_of_lt (blk_lt (g := gb172) (o := .cells #[.slice A0_0 l0_0.length c0_0, .slice (some ad177) l0_1.length c0_1, .int .i64 a0_2] 25 (0, 0)) (zrb BK172.out)) : gb172 ≠ gb178)); have n6_ := zqj ((by rw [hg]; exact Nat.ne_of_gt (blk_lt (g := gb172) (o := .cells #[.slice A0_0 l0_0.length c0_0, .slice (some ad177) l0_1.length c0_1, .int .i64 a0_2] 25 (0, 0)) (zrb BK172.out)) : gb178 ≠ gb172)); clear BK172; clear HB; have BK172 := n0_; have HB := n1_; have BK178 := n2_; have GW178 := n3_; have GE178 := n4_; have NB172_178 := n5_; have NB178_172 := n6_; clear n0_ n1_ n2_ n3_ n4_ n5_ n6_; clear hb hbox hg; have hnb39 := NB178_172.out; have hnc39 := NB172_178.out; obtain ⟨hcz40_0, hcz40_1⟩ := zc2 BK178.out; obtain ⟨hfz40_0, hfz40_1⟩ := zf2 BK178.out))
            have n0_ : Aside0 (((w38.setCell ⟨gb178, 0, none⟩ (.int .i64 ((rd_T61 l0_1 x5_3).f0))).setCell ⟨gb178, 1, none⟩ (.int .i64 ((rd_T61 l0_1 x5_3).f1))).heap[gb172]? = some (.cells #[.slice A0_0 l0_0.length c0_0, .slice (some ad177) l0_1.length c0_1, .int .i64 a0_2] 25 (0, 0))) := ⟨by (iterate 2 ((with_reducible repeat (first | refine zqa ?_ _ | refine zqb ?_ | refine zqc ?_ _)); refine blk_far ?_ NB172_178.out _)); (with_reducible repeat (first | refine zqa ?_ _ | refine zqb ?_ | refine zqc ?_ _)); exact BK172.out⟩
            have n1_ : Aside0 (((w38.setCell ⟨gb178, 0, none⟩ (.int .i64 ((rd_T61 l0_1 x5_3).f0))).setCell ⟨gb178, 1, none⟩ (.int .i64 ((rd_T61 l0_1 x5_3).f1))).heap[gb178]? = some (.cells #[.int .i64 ((rd_T61 l0_1 x5_3).f0), .int .i64 ((rd_T61 l0_1 x5_3).f1)] 61 (0, 0))) := ⟨by (with_reducible repeat (first | refine zqa ?_ _ | refine zqb ?_ | refine zqc ?_ _)); refine blk_put (cs := #[.int .i64 ((rd_T61 l0_1 x5_3).f0), .int .i64 0]) ?_ 1 _ rfl; (with_reducible repeat (first | refine zqa ?_ _ | refine zqb ?_ | refine zqc ?_ _)); refine blk_put (cs := #[.int .i64 0, .int .i64 0]) ?_ 0 _ rfl; (with_reducible repeat (first | refine zqa ?_ _ | refine zqb ?_ | refine zqc ?_ _)); exact BK178.out⟩
            have n2_ : Aside0 (Below w.heap.size w ((w38.setCell ⟨gb178, 0, none⟩ (.int .i64 ((rd_T61 l0_1 x5_3).f0))).setCell ⟨gb178, 1, none⟩ (.int .i64 ((rd_T61 l0_1 x5_3).f1)))) := ⟨by repeat (first | (with_reducible first | exact HB.out | apply zqg | apply zqe | apply zqf | refine zqd ?_ GE172.out | refine zqd ?_ GE178.out) | exact HB.out)⟩
            ((try clear BK172); (try clear BK178); (try clear HB))
            generalize ((w38.setCell ⟨gb178, 0, none⟩ (.int .i64 ((rd_T61 l0_1 x5_3).f0))).setCell ⟨gb178, 1, none⟩ (.int .i64 ((rd_T61 l0_1 x5_3).f1))) = w41 at n0_ n1_ n2_ ⊢
            (have BK172 := n0_; have BK178 := n1_; have HB := n2_; clear n0_ n1_ n2_)
            replace BK172 := zqj (zqb BK172.out); replace BK178 := zqj (zqb BK178.out); replace HB := zqj (zqf HB.out)
            refine start_ (n := 31) (S := fun w' => w'.cell? ⟨gb178, 0, none⟩ = some (.int .i64 ((rd_T61 l0_1 x5_3).f0)) ∧ w'.cell? ⟨gb178, 1, none⟩ = some (.int .i64 ((rd_T61 l0_1 x5_3).f1))) (ds := []) #[false, false, false, false, false, false, false, false, false, false, false, false, false, false, false, false, false, false, false, false, false, false, false, false, false, false, false, false, false, false, false] (by kernel_rfl) rfl rfl ⟨(blk_cell BK178.out 0).trans rfl, (blk_cell BK178.out 1).trans rfl⟩ (fun hHeld => ?_); refine with_tabW copyholdref12_Right.tab13 copyholdref12_Right.bits13 (fun HT_ HW_ => ?_)
            generalize w41.drew = w42 at BK172 BK178 HB hHeld ⊢
            refine zp 0 65 (zb 31 1) HT_.out ?_
            refine zt 1 66 (zb 31 3) HT_.out HW_.out hHeld ?_
            refine zp 2 67 (zb 31 7) HT_.out ?_
            refine zp 3 68 (zb 31 15) HT_.out ?_
            refine zq 4 69 (zb 31 31) HT_.out ?_
            refine zq 5 70 (zb 31 63) HT_.out ?_
            refine zq 6 71 (zb 31 127) HT_.out ?_
            refine zq 7 72 (zb 31 255) HT_.out ?_
            refine zq 8 73 (zb 31 511) HT_.out ?_
            refine zp 9 74 (zb 31 1023) HT_.out ?_
            refine zp 10 75 (zb 31 2047) HT_.out ?_
            refine zq 11 76 (zb 31 4095) HT_.out ?_
            refine zq 12 77 (zb 31 8191) HT_.out ?_
            refine zq 13 78 (zb 31 16383) HT_.out ?_
            refine zp 14 79 (zb 31 32767) HT_.out ?_
            refine zp 15 80 (zb 31 65535) HT_.out ?_
            refine zq 16 81 (zb 31 131071) HT_.out ?_
            refine zq 17 82 (zb 31 262143) HT_.out ?_
            refine zq 18 83 (zb 31 524287) HT_.out ?_
            refine zq 19 84 (zb 31 1048575) HT_.out ?_
            refine zq 20 85 (zb 31 2097151) HT_.out ?_
            refine zq 21 86 (zb 31 4194303) HT_.out ?_
            refine zq 22 87 (zb 31 8388607) HT_.out ?_
            refine zq 23 88 (zb 31 16777215) HT_.out ?_
            refine zq 24 89 (zb 31 33554431) HT_.out ?_
            refine zq 25 90 (zb 31 67108863) HT_.out ?_
            refine zq 26 91 (zb 31 134217727) HT_.out ?_
            refine zq 27 92 (zb 31 268435455) HT_.out ?_
            refine zq 28 93 (zb 31 536870911) HT_.out ?_
            refine zq 29 94 (zb 31 1073741823) HT_.out ?_
            refine zp 30 95 (zb 31 2147483647) HT_.out ?_
            refine done_ (done_of HT_.out (by kernel_rfl)) ?_
            try go_wp2
            go_ret
            exact ⟨zru, by repeat (first | (with_reducible first | exact HB.out | apply zqg | apply zqe | apply zqf | refine zqd ?_ GE172.out | refine zqd ?_ GE178.out) | exact HB.out)⟩
           ·rw [if_neg c36] at H
            have c36b0 : decide (((rd_T61 l0_1 x5_3).f0) < 1) = false := decide_eq_false c36
            clear c36
            by_cases c43 : ((rd_T61 l0_1 x5_3).f0) > a0_2
            ·rw [if_pos c43] at H
             have c43b0 : decide (a0_2 < ((rd_T61 l0_1 x5_3).f0)) = true := decide_eq_true c43
             clear c43
             obtain rfl := Option.some.inj H
             obtain ⟨hcz44_0, hcz44_1, hcz44_2⟩ := zc3 BK172.out
             (obtain ⟨hfz44_0, hfz44_1, hfz44_2⟩ := zf3 BK172.out)
             have p177 : 0 ≤ (x5_3 : Int) := zqh zrs
             have q177 : x5_3 < (l0_1.length : Int) := zqh zrs
             obtain ⟨ad177, e177, hx177_0, hx177_1⟩ := at_T61 HR0_1.out x5_3 p177 q177
             cases e177
             replace hx177_0 := zx HB.out hx177_0
             replace hx177_1 := zx HB.out hx177_1
             replace p177 := eq_true p177
             replace q177 := eq_true q177
             try go_wp2_with (first | ((with_reducible refine gate_dst (N := 6) rfl ?_); (try (refine gate_guard (by rfl) ?_; dsimp only)); refine box_event ?hg (N := 6) ?hd (cs := #[.int .i64 0, .int .i64 0]) (t := 61) ?hr ?_; (case hd => rfl); (case hg => rfl); (case hr => exact zrr); intro gb178 hg w45 hbox hb; have n0_ := zqj (blk_below (g := gb172) (o := .cells #[.slice A0_0 l0_0.length c0_0, .slice (some ad177) l0_1.length c0_1, .int .i64 a0_2] 25 (0, 0)) (zrb BK172.out) hb); have n1_ := zqj (below_step (zrd1 HB.out GE172.out) hb); have n2_ := zqj (hbox); have n3_ := zqj ((by rw [hg]; exact (below_size (zrd1 HB.out GE172.out)) : w.heap.size ≤ gb178)); have n4_ := zqj ((by rw [hg]; exact (below_size (zrd1 HB.out GE172.out)) : w.heap.size ≤ gb178)); have n5_ := zqj ((by rw [hg]; exact Nat.ne_of_lt (blk_lt (g := gb172) (o := .cells #[.slice A0_0 l0_0.length c0_0, .slice (some ad177) l0_1.length c0_1, .int .i64 a0_2] 25 (0, 0)) (zrb BK172.out)) : gb172 ≠ gb178)); have n6_ := zqj ((by rw [hg]; exact Nat.ne_of_gt (blk_lt (g := gb172) (o := .cells #[.slice A0_0 l0_0.length c0_0, .slice (some ad177) l0_1.length c0_1, .int .i64 a0_2] 25 (0, 0)) (zrb BK172.out)) : gb178 ≠ gb172)); clear BK172; clear HB; have BK172 := n0_; have HB := n1_; have BK178 := n2_; have GW178 := n3_; have GE178 := n4_; have NB172_178 := n5_; have NB178_172 := n6_; clear n0_ n1_ n2_ n3_ n4_ n5_ n6_; clear hb hbox hg; have hnb46 := NB178_172.out; have hnc46 := NB172_178.out; obtain ⟨hcz47_0, hcz47_1⟩ := zc2 BK178.out; obtain ⟨hfz47_0, hfz47_1⟩ := zf2 BK178.out))
             have n0_ : Aside0 (((w45.setCell ⟨gb178, 0, none⟩ (.int .i64 ((rd_T61 l0_1 x5_3).f0))).setCell ⟨gb178, 1, none⟩ (.int .i64 ((rd_T61 l0_1 x5_3).f1))).heap[gb172]? = some (.cells #[.slice A0_0 l0_0.length c0_0, .slice (some ad177) l0_1.length c0_1, .int .i64 a0_2] 25 (0, 0))) := ⟨by (iterate 2 ((with_reducible repeat (first | refine zqa ?_ _ | refine zqb ?_ | refine zqc ?_ _)); refine blk_far ?_ NB172_178.out _)); (with_reducible repeat (first | refine zqa ?_ _ | refine zqb ?_ | refine zqc ?_ _)); exact BK172.out⟩
             have n1_ : Aside0 (((w45.setCell ⟨gb178, 0, none⟩ (.int .i64 ((rd_T61 l0_1 x5_3).f0))).setCell ⟨gb178, 1, none⟩ (.int .i64 ((rd_T61 l0_1 x5_3).f1))).heap[gb178]? = some (.cells #[.int .i64 ((rd_T61 l0_1 x5_3).f0), .int .i64 ((rd_T61 l0_1 x5_3).f1)] 61 (0, 0))) := ⟨by (with_reducible repeat (first | refine zqa ?_ _ | refine zqb ?_ | refine zqc ?_ _)); refine blk_put (cs := #[.int .i64 ((rd_T61 l0_1 x5_3).f0), .int .i64 0]) ?_ 1 _ rfl; (with_reducible repeat (first | refine zqa ?_ _ | refine zqb ?_ | refine zqc ?_ _)); refine blk_put (cs := #[.int .i64 0, .int .i64 0]) ?_ 0 _ rfl; (with_reducible repeat (first | refine zqa ?_ _ | refine zqb ?_ | refine zqc ?_ _)); exact BK178.out⟩
             have n2_ : Aside0 (Below w.heap.size w ((w45.setCell ⟨gb178, 0, none⟩ (.int .i64 ((rd_T61 l0_1 x5_3).f0))).setCell ⟨gb178, 1, none⟩ (.int .i64 ((rd_T61 l0_1 x5_3).f1)))) := ⟨by repeat (first | (with_reducible first | exact HB.out | apply zqg | apply zqe | apply zqf | refine zqd ?_ GE172.out | refine zqd ?_ GE178.out) | exact HB.out)⟩
             ((try clear BK172); (try clear BK178); (try clear HB))
             generalize ((w45.setCell ⟨gb178, 0, none⟩ (.int .i64 ((rd_T61 l0_1 x5_3).f0))).setCell ⟨gb178, 1, none⟩ (.int .i64 ((rd_T61 l0_1 x5_3).f1))) = w48 at n0_ n1_ n2_ ⊢
             (have BK172 := n0_; have BK178 := n1_; have HB := n2_; clear n0_ n1_ n2_)
             replace BK172 := zqj (zqb BK172.out); replace BK178 := zqj (zqb BK178.out); replace HB := zqj (zqf HB.out)
             refine start_ (n := 31) (S := fun w' => w'.cell? ⟨gb178, 0, none⟩ = some (.int .i64 ((rd_T61 l0_1 x5_3).f0)) ∧ w'.cell? ⟨gb178, 1, none⟩ = some (.int .i64 ((rd_T61 l0_1 x5_3).f1)) ∧ w'.cell? ⟨gb172, 0, none⟩ = some (.slice A0_0 l0_0.length c0_0) ∧ w'.cell? ⟨gb172, 1, none⟩ = some (.slice (some ad177) l0_1.length c0_1) ∧ w'.cell? ⟨gb172, 2, none⟩ = some (.int .i64 a0_2)) (ds := []) #[false, false, false, false, false, false, false, false, false, false, false, false, false, false, false, false, false, false, false, false, false, false, false, false, false, false, false, false, false, false, false] (by kernel_rfl) rfl rfl ⟨(blk_cell BK178.out 0).trans rfl, (blk_cell BK178.out 1).trans rfl, (blk_cell BK172.out 0).trans rfl, (blk_cell BK172.out 1).trans rfl, (blk_cell BK172.out 2).trans rfl⟩ (fun hHeld => ?_); refine with_tabW copyholdref12_Right.tab13 copyholdref12_Right.bits13 (fun HT_ HW_ => ?_)
             generalize w48.drew = w49 at BK172 BK178 HB hHeld ⊢
             refine zp 0 65 (zb 31 1) HT_.out ?_
             refine zt 1 66 (zb 31 3) HT_.out HW_.out hHeld ?_
             refine zp 2 67 (zb 31 7) HT_.out ?_
             refine zp 3 68 (zb 31 15) HT_.out ?_
             refine zp 4 69 (zb 31 31) HT_.out ?_
             refine zp 6 71 (zb 31 95) HT_.out ?_
             refine zt 5 70 (zb 31 127) HT_.out HW_.out hHeld ?_
             refine zt 7 72 (zb 31 255) HT_.out HW_.out hHeld ?_
             refine zp 8 73 (zb 31 511) HT_.out ?_
             refine zp 9 74 (zb 31 1023) HT_.out ?_
             refine zp 10 75 (zb 31 2047) HT_.out ?_
             refine zq 11 76 (zb 31 4095) HT_.out ?_
             refine zq 12 77 (zb 31 8191) HT_.out ?_
             refine zq 13 78 (zb 31 16383) HT_.out ?_
             refine zp 14 79 (zb 31 32767) HT_.out ?_
             refine zp 15 80 (zb 31 65535) HT_.out ?_
             refine zq 16 81 (zb 31 131071) HT_.out ?_
             refine zq 17 82 (zb 31 262143) HT_.out ?_
             refine zq 18 83 (zb 31 524287) HT_.out ?_
             refine zq 19 84 (zb 31 1048575) HT_.out ?_
             refine zq 20 85 (zb 31 2097151) HT_.out ?_
             refine zq 21 86 (zb 31 4194303) HT_.out ?_
             refine zq 22 87 (zb 31 8388607) HT_.out ?_
             refine zq 23 88 (zb 31 16777215) HT_.out ?_
             refine zq 24 89 (zb 31 33554431) HT_.out ?_
             refine zq 25 90 (zb 31 67108863) HT_.out ?_
             refine zq 26 91 (zb 31 134217727) HT_.out ?_
             refine zq 27 92 (zb 31 268435455) HT_.out ?_
             refine zq 28 93 (zb 31 536870911) HT_.out ?_
             refine zq 29 94 (zb 31 1073741823) HT_.out ?_
             refine zp 30 95 (zb 31 2147483647) HT_.out ?_
             refine done_ (done_of HT_.out (by kernel_rfl)) ?_
             try go_wp2
             go_ret
             exact ⟨zru, by repeat (first | (with_reducible first | exact HB.out | apply zqg | apply zqe | apply zqf | refine zqd ?_ GE172.out | refine zqd ?_ GE178.out) | exact HB.out)⟩
            ·rw [if_neg c43] at H
             have c43b0 : decide (a0_2 < ((rd_T61 l0_1 x5_3).f0)) = false := decide_eq_false c43
             clear c43
             by_cases c50 : ((rd_T61 l0_1 x5_3).f1) < 1
             ·rw [if_pos c50] at H
              have c50b0 : decide (((rd_T61 l0_1 x5_3).f1) < 1) = true := decide_eq_true c50
              clear c50
              obtain rfl := Option.some.inj H
              obtain ⟨hcz51_0, hcz51_1, hcz51_2⟩ := zc3 BK172.out
              (obtain ⟨hfz51_0, hfz51_1, hfz51_2⟩ := zf3 BK172.out)
              have p177 : 0 ≤ (x5_3 : Int) := zqh zrs
              have q177 : x5_3 < (l0_1.length : Int) := zqh zrs
              obtain ⟨ad177, e177, hx177_0, hx177_1⟩ := at_T61 HR0_1.out x5_3 p177 q177
              cases e177
              replace hx177_0 := zx HB.out hx177_0
              replace hx177_1 := zx HB.out hx177_1
              replace p177 := eq_true p177
              replace q177 := eq_true q177
              try go_wp2_with (first | ((with_reducible refine gate_dst (N := 6) rfl ?_); (try (refine gate_guard (by rfl) ?_; dsimp only)); refine box_event ?hg (N := 6) ?hd (cs := #[.int .i64 0, .int .i64 0]) (t := 61) ?hr ?_; (case hd => rfl); (case hg => rfl); (case hr => exact zrr); intro gb178 hg w52 hbox hb; have n0_ := zqj (blk_below (g := gb172) (o := .cells #[.slice A0_0 l0_0.length c0_0, .slice (some ad177) l0_1.length c0_1, .int .i64 a0_2] 25 (0, 0)) (zrb BK172.out) hb); have n1_ := zqj (below_step (zrd1 HB.out GE172.out) hb); have n2_ := zqj (hbox); have n3_ := zqj ((by rw [hg]; exact (below_size (zrd1 HB.out GE172.out)) : w.heap.size ≤ gb178)); have n4_ := zqj ((by rw [hg]; exact (below_size (zrd1 HB.out GE172.out)) : w.heap.size ≤ gb178)); have n5_ := zqj ((by rw [hg]; exact Nat.ne_of_lt (blk_lt (g := gb172) (o := .cells #[.slice A0_0 l0_0.length c0_0, .slice (some ad177) l0_1.length c0_1, .int .i64 a0_2] 25 (0, 0)) (zrb BK172.out)) : gb172 ≠ gb178)); have n6_ := zqj ((by rw [hg]; exact Nat.ne_of_gt (blk_lt (g := gb172) (o := .cells #[.slice A0_0 l0_0.length c0_0, .slice (some ad177) l0_1.length c0_1, .int .i64 a0_2] 25 (0, 0)) (zrb BK172.out)) : gb178 ≠ gb172)); clear BK172; clear HB; have BK172 := n0_; have HB := n1_; have BK178 := n2_; have GW178 := n3_; have GE178 := n4_; have NB172_178 := n5_; have NB178_172 := n6_; clear n0_ n1_ n2_ n3_ n4_ n5_ n6_; clear hb hbox hg; have hnb53 := NB178_172.out; have hnc53 := NB172_178.out; obtain ⟨hcz54_0, hcz54_1⟩ := zc2 BK178.out; obtain ⟨hfz54_0, hfz54_1⟩ := zf2 BK178.out))
              have n0_ : Aside0 (((w52.setCell ⟨gb178, 0, none⟩ (.int .i64 ((rd_T61 l0_1 x5_3).f0))).setCell ⟨gb178, 1, none⟩ (.int .i64 ((rd_T61 l0_1 x5_3).f1))).heap[gb172]? = some (.cells #[.slice A0_0 l0_0.length c0_0, .slice (some ad177) l0_1.length c0_1, .int .i64 a0_2] 25 (0, 0))) := ⟨by (iterate 2 ((with_reducible repeat (first | refine zqa ?_ _ | refine zqb ?_ | refine zqc ?_ _)); refine blk_far ?_ NB172_178.out _)); (with_reducible repeat (first | refine zqa ?_ _ | refine zqb ?_ | refine zqc ?_ _)); exact BK172.out⟩
              have n1_ : Aside0 (((w52.setCell ⟨gb178, 0, none⟩ (.int .i64 ((rd_T61 l0_1 x5_3).f0))).setCell ⟨gb178, 1, none⟩ (.int .i64 ((rd_T61 l0_1 x5_3).f1))).heap[gb178]? = some (.cells #[.int .i64 ((rd_T61 l0_1 x5_3).f0), .int .i64 ((rd_T61 l0_1 x5_3).f1)] 61 (0, 0))) := ⟨by (with_reducible repeat (first | refine zqa ?_ _ | refine zqb ?_ | refine zqc ?_ _)); refine blk_put (cs := #[.int .i64 ((rd_T61 l0_1 x5_3).f0), .int .i64 0]) ?_ 1 _ rfl; (with_reducible repeat (first | refine zqa ?_ _ | refine zqb ?_ | refine zqc ?_ _)); refine blk_put (cs := #[.int .i64 0, .int .i64 0]) ?_ 0 _ rfl; (with_reducible repeat (first | refine zqa ?_ _ | refine zqb ?_ | refine zqc ?_ _)); exact BK178.out⟩
              have n2_ : Aside0 (Below w.heap.size w ((w52.setCell ⟨gb178, 0, none⟩ (.int .i64 ((rd_T61 l0_1 x5_3).f0))).setCell ⟨gb178, 1, none⟩ (.int .i64 ((rd_T61 l0_1 x5_3).f1)))) := ⟨by repeat (first | (with_reducible first | exact HB.out | apply zqg | apply zqe | apply zqf | refine zqd ?_ GE172.out | refine zqd ?_ GE178.out) | exact HB.out)⟩
              ((try clear BK172); (try clear BK178); (try clear HB))
              generalize ((w52.setCell ⟨gb178, 0, none⟩ (.int .i64 ((rd_T61 l0_1 x5_3).f0))).setCell ⟨gb178, 1, none⟩ (.int .i64 ((rd_T61 l0_1 x5_3).f1))) = w55 at n0_ n1_ n2_ ⊢
              (have BK172 := n0_; have BK178 := n1_; have HB := n2_; clear n0_ n1_ n2_)
              replace BK172 := zqj (zqb BK172.out); replace BK178 := zqj (zqb BK178.out); replace HB := zqj (zqf HB.out)
              refine start_ (n := 31) (S := fun w' => w'.cell? ⟨gb178, 0, none⟩ = some (.int .i64 ((rd_T61 l0_1 x5_3).f0)) ∧ w'.cell? ⟨gb178, 1, none⟩ = some (.int .i64 ((rd_T61 l0_1 x5_3).f1)) ∧ w'.cell? ⟨gb172, 0, none⟩ = some (.slice A0_0 l0_0.length c0_0) ∧ w'.cell? ⟨gb172, 1, none⟩ = some (.slice (some ad177) l0_1.length c0_1) ∧ w'.cell? ⟨gb172, 2, none⟩ = some (.int .i64 a0_2)) (ds := []) #[false, false, false, false, false, false, false, false, false, false, false, false, false, false, false, false, false, false, false, false, false, false, false, false, false, false, false, false, false, false, false] (by kernel_rfl) rfl rfl ⟨(blk_cell BK178.out 0).trans rfl, (blk_cell BK178.out 1).trans rfl, (blk_cell BK172.out 0).trans rfl, (blk_cell BK172.out 1).trans rfl, (blk_cell BK172.out 2).trans rfl⟩ (fun hHeld => ?_); refine with_tabW copyholdref12_Right.tab13 copyholdref12_Right.bits13 (fun HT_ HW_ => ?_)
              generalize w55.drew = w56 at BK172 BK178 HB hHeld ⊢
              refine zp 0 65 (zb 31 1) HT_.out ?_
              refine zt 1 66 (zb 31 3) HT_.out HW_.out hHeld ?_
              refine zp 2 67 (zb 31 7) HT_.out ?_
              refine zp 3 68 (zb 31 15) HT_.out ?_
              refine zp 4 69 (zb 31 31) HT_.out ?_
              refine zp 6 71 (zb 31 95) HT_.out ?_
              refine zt 5 70 (zb 31 127) HT_.out HW_.out hHeld ?_
              refine zt 7 72 (zb 31 255) HT_.out HW_.out hHeld ?_
              refine zp 8 73 (zb 31 511) HT_.out ?_
              refine zp 9 74 (zb 31 1023) HT_.out ?_
              refine zp 10 75 (zb 31 2047) HT_.out ?_
              refine zp 11 76 (zb 31 4095) HT_.out ?_
              refine zt 12 77 (zb 31 8191) HT_.out HW_.out hHeld ?_
              refine zp 13 78 (zb 31 16383) HT_.out ?_
              refine zp 14 79 (zb 31 32767) HT_.out ?_
              refine zp 15 80 (zb 31 65535) HT_.out ?_
              refine zq 16 81 (zb 31 131071) HT_.out ?_
              refine zq 17 82 (zb 31 262143) HT_.out ?_
              refine zq 18 83 (zb 31 524287) HT_.out ?_
              refine zq 19 84 (zb 31 1048575) HT_.out ?_
              refine zq 20 85 (zb 31 2097151) HT_.out ?_
              refine zq 21 86 (zb 31 4194303) HT_.out ?_
              refine zq 22 87 (zb 31 8388607) HT_.out ?_
              refine zq 23 88 (zb 31 16777215) HT_.out ?_
              refine zq 24 89 (zb 31 33554431) HT_.out ?_
              refine zq 25 90 (zb 31 67108863) HT_.out ?_
              refine zq 26 91 (zb 31 134217727) HT_.out ?_
              refine zq 27 92 (zb 31 268435455) HT_.out ?_
              refine zq 28 93 (zb 31 536870911) HT_.out ?_
              refine zq 29 94 (zb 31 1073741823) HT_.out ?_
              refine zp 30 95 (zb 31 2147483647) HT_.out ?_
              refine done_ (done_of HT_.out (by kernel_rfl)) ?_
              try go_wp2
              go_ret
              exact ⟨zru, by repeat (first | (with_reducible first | exact HB.out | apply zqg | apply zqe | apply zqf | refine zqd ?_ GE172.out | refine zqd ?_ GE178.out) | exact HB.out)⟩
             ·rw [if_neg c50] at H
              have c50b0 : decide (((rd_T61 l0_1 x5_3).f1) < 1) = false := decide_eq_false c50
              clear c50
              by_cases c57 : x5_3 > 0
              ·rw [if_pos c57] at H
               have c57b0 : decide (0 < x5_3) = true := decide_eq_true c57
               clear c57
               obtain ⟨ji58, hji58⟩ : ∃ j_ : Int, (wrap64 (x5_3 - 1)) = j_ := ⟨_, rfl⟩
               replace H : (if 0 ≤ (ji58) then (if (ji58) < (l0_1.length : Int) then (if ((rd_T61 l0_1 (ji58)).f0) ≥ ((rd_T61 l0_1 x5_3).f0) then (some false) else (copyholdref12_Right.l1 k3 (wrap64 (x5_3 + 1)) l0_0 l0_1 a0_2)) else (none)) else (none)) = some r := by first | (rw [hji58] at H; exact H) | (simp only [hji58] at H ⊢; exact H)
               have hji58w : (IntKind.i64.wrap (x5_3 - 1)) = ji58 := (i64_w _).trans hji58
               by_cases c59 : 0 ≤ (ji58)
               ·rw [if_pos c59] at H
                have c59b0 : decide (0 ≤ (ji58)) = true := decide_eq_true c59
                clear c59
                by_cases c60 : (ji58) < (l0_1.length : Int)
                ·rw [if_pos c60] at H
                 have c60b0 : decide ((ji58) < (l0_1.length : Int)) = true := decide_eq_true c60
                 clear c60
                 by_cases c61 : ((rd_T61 l0_1 (ji58)).f0) ≥ ((rd_T61 l0_1 x5_3).f0)
                 ·rw [if_pos c61] at H
                  have c61b0 : decide (((rd_T61 l0_1 x5_3).f0) ≤ ((rd_T61 l0_1 (ji58)).f0)) = true := decide_eq_true c61
                  clear c61
                  obtain rfl := Option.some.inj H
                  obtain ⟨hcz62_0, hcz62_1, hcz62_2⟩ := zc3 BK172.out
                  (obtain ⟨hfz62_0, hfz62_1, hfz62_2⟩ := zf3 BK172.out)
                  have p177 : 0 ≤ (x5_3 : Int) := zqh zrs
                  have q177 : x5_3 < (l0_1.length : Int) := zqh zrs
                  obtain ⟨ad177, e177, hx177_0, hx177_1⟩ := at_T61 HR0_1.out x5_3 p177 q177
                  cases e177
                  replace hx177_0 := zx HB.out hx177_0
                  replace hx177_1 := zx HB.out hx177_1
                  replace p177 := eq_true p177
                  replace q177 := eq_true q177
                  try go_wp2_with (first | ((with_reducible refine gate_dst (N := 6) rfl ?_); (try (refine gate_guard (by rfl) ?_; dsimp only)); refine box_event ?hg (N := 6) ?hd (cs := #[.int .i64 0, .int .i64 0]) (t := 61) ?hr ?_; (case hd => rfl); (case hg => rfl); (case hr => exact zrr); intro gb178 hg w63 hbox hb; have n0_ := zqj (blk_below (g := gb172) (o := .cells #[.slice A0_0 l0_0.length c0_0, .slice (some ad177) l0_1.length c0_1, .int .i64 a0_2] 25 (0, 0)) (zrb BK172.out) hb); have n1_ := zqj (below_step (zrd1 HB.out GE172.out) hb); have n2_ := zqj (hbox); have n3_ := zqj ((by rw [hg]; exact (below_size (zrd1 HB.out GE172.out)) : w.heap.size ≤ gb178)); have n4_ := zqj ((by rw [hg]; exact (below_size (zrd1 HB.out GE172.out)) : w.heap.size ≤ gb178)); have n5_ := zqj ((by rw [hg]; exact Nat.ne_of_lt (blk_lt (g := gb172) (o := .cells #[.slice A0_0 l0_0.length c0_0, .slice (some ad177) l0_1.length c0_1, .int .i64 a0_2] 25 (0, 0)) (zrb BK172.out)) : gb172 ≠ gb178)); have n6_ := zqj ((by rw [hg]; exact Nat.ne_of_gt (blk_lt (g := gb172) (o := .cells #[.slice A0_0 l0_0.length c0_0, .slice (some ad177) l0_1.length c0_1, .int .i64 a0_2] 25 (0, 0)) (zrb BK172.out)) : gb178 ≠ gb172)); clear BK172; clear HB; have BK172 := n0_; have HB := n1_; have BK178 := n2_; have GW178 := n3_; have GE178 := n4_; have NB172_178 := n5_; have NB178_172 := n6_; clear n0_ n1_ n2_ n3_ n4_ n5_ n6_; clear hb hbox hg; have hnb64 := NB178_172.out; have hnc64 := NB172_178.out; obtain ⟨hcz65_0, hcz65_1⟩ := zc2 BK178.out; obtain ⟨hfz65_0, hfz65_1⟩ := zf2 BK178.out))
                  have n0_ : Aside0 (((w63.setCell ⟨gb178, 0, none⟩ (.int .i64 ((rd_T61 l0_1 x5_3).f0))).setCell ⟨gb178, 1, none⟩ (.int .i64 ((rd_T61 l0_1 x5_3).f1))).heap[gb172]? = some (.cells #[.slice A0_0 l0_0.length c0_0, .slice (some ad177) l0_1.length c0_1, .int .i64 a0_2] 25 (0, 0))) := ⟨by (iterate 2 ((with_reducible repeat (first | refine zqa ?_ _ | refine zqb ?_ | refine zqc ?_ _)); refine blk_far ?_ NB172_178.out _)); (with_reducible repeat (first | refine zqa ?_ _ | refine zqb ?_ | refine zqc ?_ _)); exact BK172.out⟩
                  have n1_ : Aside0 (((w63.setCell ⟨gb178, 0, none⟩ (.int .i64 ((rd_T61 l0_1 x5_3).f0))).setCell ⟨gb178, 1, none⟩ (.int .i64 ((rd_T61 l0_1 x5_3).f1))).heap[gb178]? = some (.cells #[.int .i64 ((rd_T61 l0_1 x5_3).f0), .int .i64 ((rd_T61 l0_1 x5_3).f1)] 61 (0, 0))) := ⟨by (with_reducible repeat (first | refine zqa ?_ _ | refine zqb ?_ | refine zqc ?_ _)); refine blk_put (cs := #[.int .i64 ((rd_T61 l0_1 x5_3).f0), .int .i64 0]) ?_ 1 _ rfl; (with_reducible repeat (first | refine zqa ?_ _ | refine zqb ?_ | refine zqc ?_ _)); refine blk_put (cs := #[.int .i64 0, .int .i64 0]) ?_ 0 _ rfl; (with_reducible repeat (first | refine zqa ?_ _ | refine zqb ?_ | refine zqc ?_ _)); exact BK178.out⟩
                  have n2_ : Aside0 (Below w.heap.size w ((w63.setCell ⟨gb178, 0, none⟩ (.int .i64 ((rd_T61 l0_1 x5_3).f0))).setCell ⟨gb178, 1, none⟩ (.int .i64 ((rd_T61 l0_1 x5_3).f1)))) := ⟨by repeat (first | (with_reducible first | exact HB.out | apply zqg | apply zqe | apply zqf | refine zqd ?_ GE172.out | refine zqd ?_ GE178.out) | exact HB.out)⟩
                  ((try clear BK172); (try clear BK178); (try clear HB))
                  generalize ((w63.setCell ⟨gb178, 0, none⟩ (.int .i64 ((rd_T61 l0_1 x5_3).f0))).setCell ⟨gb178, 1, none⟩ (.int .i64 ((rd_T61 l0_1 x5_3).f1))) = w66 at n0_ n1_ n2_ ⊢
                  (have BK172 := n0_; have BK178 := n1_; have HB := n2_; clear n0_ n1_ n2_)
                  replace BK172 := zqj (zqb BK172.out); replace BK178 := zqj (zqb BK178.out); replace HB := zqj (zqf HB.out)
                  have p179 : 0 ≤ ((ji58) : Int) := zqh zrs
                  have q179 : (ji58) < (l0_1.length : Int) := zqh zrs
                  obtain ⟨ad179, e179, hx179_0, hx179_1⟩ := at_T61 HR0_1.out (ji58) p179 q179
                  have hw179_1 := hx179_1
                  have hw179_0 := hx179_0
                  obtain rfl : ad177 = ad179 := (by injection e179)
                  replace hx179_0 := zx HB.out hx179_0
                  replace hx179_1 := zx HB.out hx179_1
                  replace p179 := eq_true p179
                  replace q179 := eq_true q179
                  refine start_ (n := 31) (S := fun w' => w'.cell? ⟨gb178, 0, none⟩ = some (.int .i64 ((rd_T61 l0_1 x5_3).f0)) ∧ w'.cell? ⟨gb178, 1, none⟩ = some (.int .i64 ((rd_T61 l0_1 x5_3).f1)) ∧ w'.cell? ⟨gb172, 0, none⟩ = some (.slice A0_0 l0_0.length c0_0) ∧ w'.cell? ⟨gb172, 1, none⟩ = some (.slice (some ad177) l0_1.length c0_1) ∧ w'.cell? ⟨gb172, 2, none⟩ = some (.int .i64 a0_2) ∧ w'.cell? (ad177.add (((ji58)).toNat * 2)) = some (.int .i64 ((rd_T61 l0_1 (ji58)).f0)) ∧ w'.cell? ⟨(ad177.add (((ji58)).toNat * 2)).block, (ad177.add (((ji58)).toNat * 2)).off + 1, none⟩ = some (.int .i64 ((rd_T61 l0_1 (ji58)).f1))) (ds := []) #[false, false, false, false, false, false, false, false, false, false, false, false, false, false, false, false, false, false, false, false, false, false, false, false, false, false, false, false, false, false, false] (by kernel_rfl) rfl rfl ⟨(blk_cell BK178.out 0).trans rfl, (blk_cell BK178.out 1).trans rfl, (blk_cell BK172.out 0).trans rfl, (blk_cell BK172.out 1).trans rfl, (blk_cell BK172.out 2).trans rfl, ((HB.out.cell (World.block_lt_of_cell? w _ hw179_0)).trans hw179_0), ((HB.out.cell (World.block_lt_of_cell? w _ hw179_1)).trans hw179_1)⟩ (fun hHeld => ?_); refine with_tabW copyholdref12_Right.tab13 copyholdref12_Right.bits13 (fun HT_ HW_ => ?_)
                  generalize w66.drew = w67 at BK172 BK178 HB hx179_0 hx179_1 hHeld ⊢
                  refine zp 0 65 (zb 31 1) HT_.out ?_
                  refine zt 1 66 (zb 31 3) HT_.out HW_.out hHeld ?_
                  refine zp 2 67 (zb 31 7) HT_.out ?_
                  refine zp 3 68 (zb 31 15) HT_.out ?_
                  refine zp 4 69 (zb 31 31) HT_.out ?_
                  refine zp 6 71 (zb 31 95) HT_.out ?_
                  refine zt 5 70 (zb 31 127) HT_.out HW_.out hHeld ?_
                  refine zt 7 72 (zb 31 255) HT_.out HW_.out hHeld ?_
                  refine zp 8 73 (zb 31 511) HT_.out ?_
                  refine zp 9 74 (zb 31 1023) HT_.out ?_
                  refine zp 10 75 (zb 31 2047) HT_.out ?_
                  refine zp 11 76 (zb 31 4095) HT_.out ?_
                  refine zt 12 77 (zb 31 8191) HT_.out HW_.out hHeld ?_
                  refine zp 13 78 (zb 31 16383) HT_.out ?_
                  refine zp 14 79 (zb 31 32767) HT_.out ?_
                  refine zp 15 80 (zb 31 65535) HT_.out ?_
                  refine zp 16 81 (zb 31 131071) HT_.out ?_
                  refine zp 17 82 (zb 31 262143) HT_.out ?_
                  refine zp 18 83 (zb 31 524287) HT_.out ?_
                  refine zp 19 84 (zb 31 1048575) HT_.out ?_
                  refine zp 21 86 (zb 31 3145727) HT_.out ?_
                  refine zp 22 87 (zb 31 7340031) HT_.out ?_
                  refine zp 26 91 (zb 31 74448895) HT_.out ?_
                  refine zt 20 85 (zb 31 75497471) HT_.out HW_.out hHeld ?_
                  refine zp 23 88 (zb 31 83886079) HT_.out ?_
                  refine zp 24 89 (zb 31 100663295) HT_.out ?_
                  refine zt 25 90 (zb 31 134217727) HT_.out HW_.out hHeld ?_
                  refine zt 27 92 (zb 31 268435455) HT_.out HW_.out hHeld ?_
                  refine zp 28 93 (zb 31 536870911) HT_.out ?_
                  refine zp 29 94 (zb 31 1073741823) HT_.out ?_
                  refine zp 30 95 (zb 31 2147483647) HT_.out ?_
                  refine done_ (done_of HT_.out (by kernel_rfl)) ?_
                  try go_wp2
                  go_ret
                  exact ⟨by first | rfl | (simp [errW_none, errW_some] <;> rfl) | (simp only [← hji58]; first | rfl | (simp [errW_none, errW_some] <;> rfl)) | (simp [*, errW_none, errW_some] <;> rfl), by repeat (first | (with_reducible first | exact HB.out | apply zqg | apply zqe | apply zqf | refine zqd ?_ GE172.out | refine zqd ?_ GE178.out) | exact HB.out)⟩
                 ·rw [if_neg c61] at H
                  have c61b0 : decide (((rd_T61 l0_1 x5_3).f0) ≤ ((rd_T61 l0_1 (ji58)).f0)) = false := decide_eq_false c61
                  clear c61
                  have H' := zqj H
                  clear H
                  obtain ⟨hcz68_0, hcz68_1, hcz68_2⟩ := zc3 BK172.out
                  (obtain ⟨hfz68_0, hfz68_1, hfz68_2⟩ := zf3 BK172.out)
                  have p177 : 0 ≤ (x5_3 : Int) := zqh zrs
                  have q177 : x5_3 < (l0_1.length : Int) := zqh zrs
                  obtain ⟨ad177, e177, hx177_0, hx177_1⟩ := at_T61 HR0_1.out x5_3 p177 q177
                  cases e177
                  replace hx177_0 := zx HB.out hx177_0
                  replace hx177_1 := zx HB.out hx177_1
                  replace p177 := eq_true p177
                  replace q177 := eq_true q177
                  try go_wp2_with (first | ((with_reducible refine gate_dst (N := 6) rfl ?_); (try (refine gate_guard (by rfl) ?_; dsimp only)); refine box_event ?hg (N := 6) ?hd (cs := #[.int .i64 0, .int .i64 0]) (t := 61) ?hr ?_; (case hd => rfl); (case hg => rfl); (case hr => exact zrr); intro gb178 hg w69 hbox hb; have n0_ := zqj (blk_below (g := gb172) (o := .cells #[.slice A0_0 l0_0.length c0_0, .slice (some ad177) l0_1.length c0_1, .int .i64 a0_2] 25 (0, 0)) (zrb BK172.out) hb); have n1_ := zqj (below_step (zrd1 HB.out GE172.out) hb); have n2_ := zqj (hbox); have n3_ := zqj ((by rw [hg]; exact (below_size (zrd1 HB.out GE172.out)) : w.heap.size ≤ gb178)); have n4_ := zqj ((by rw [hg]; exact (below_size (zrd1 HB.out GE172.out)) : w.heap.size ≤ gb178)); have n5_ := zqj ((by rw [hg]; exact Nat.ne_of_lt (blk_lt (g := gb172) (o := .cells #[.slice A0_0 l0_0.length c0_0, .slice (some ad177) l0_1.length c0_1, .int .i64 a0_2] 25 (0, 0)) (zrb BK172.out)) : gb172 ≠ gb178)); have n6_ := zqj ((by rw [hg]; exact Nat.ne_of_gt (blk_lt (g := gb172) (o := .cells #[.slice A0_0 l0_0.length c0_0, .slice (some ad177) l0_1.length c0_1, .int .i64 a0_2] 25 (0, 0)) (zrb BK172.out)) : gb178 ≠ gb172)); clear BK172; clear HB; have BK172 := n0_; have HB := n1_; have BK178 := n2_; have GW178 := n3_; have GE178 := n4_; have NB172_178 := n5_; have NB178_172 := n6_; clear n0_ n1_ n2_ n3_ n4_ n5_ n6_; clear hb hbox hg; have hnb70 := NB178_172.out; have hnc70 := NB172_178.out; obtain ⟨hcz71_0, hcz71_1⟩ := zc2 BK178.out; obtain ⟨hfz71_0, hfz71_1⟩ := zf2 BK178.out))
                  have n0_ : Aside0 (((w69.setCell ⟨gb178, 0, none⟩ (.int .i64 ((rd_T61 l0_1 x5_3).f0))).setCell ⟨gb178, 1, none⟩ (.int .i64 ((rd_T61 l0_1 x5_3).f1))).heap[gb172]? = some (.cells #[.slice A0_0 l0_0.length c0_0, .slice (some ad177) l0_1.length c0_1, .int .i64 a0_2] 25 (0, 0))) := ⟨by (iterate 2 ((with_reducible repeat (first | refine zqa ?_ _ | refine zqb ?_ | refine zqc ?_ _)); refine blk_far ?_ NB172_178.out _)); (with_reducible repeat (first | refine zqa ?_ _ | refine zqb ?_ | refine zqc ?_ _)); exact BK172.out⟩
                  have n1_ : Aside0 (((w69.setCell ⟨gb178, 0, none⟩ (.int .i64 ((rd_T61 l0_1 x5_3).f0))).setCell ⟨gb178, 1, none⟩ (.int .i64 ((rd_T61 l0_1 x5_3).f1))).heap[gb178]? = some (.cells #[.int .i64 ((rd_T61 l0_1 x5_3).f0), .int .i64 ((rd_T61 l0_1 x5_3).f1)] 61 (0, 0))) := ⟨by (with_reducible repeat (first | refine zqa ?_ _ | refine zqb ?_ | refine zqc ?_ _)); refine blk_put (cs := #[.int .i64 ((rd_T61 l0_1 x5_3).f0), .int .i64 0]) ?_ 1 _ rfl; (with_reducible repeat (first | refine zqa ?_ _ | refine zqb ?_ | refine zqc ?_ _)); refine blk_put (cs := #[.int .i64 0, .int .i64 0]) ?_ 0 _ rfl; (with_reducible repeat (first | refine zqa ?_ _ | refine zqb ?_ | refine zqc ?_ _)); exact BK178.out⟩
                  have n2_ : Aside0 (Below w.heap.size w ((w69.setCell ⟨gb178, 0, none⟩ (.int .i64 ((rd_T61 l0_1 x5_3).f0))).setCell ⟨gb178, 1, none⟩ (.int .i64 ((rd_T61 l0_1 x5_3).f1)))) := ⟨by repeat (first | (with_reducible first | exact HB.out | apply zqg | apply zqe | apply zqf | refine zqd ?_ GE172.out | refine zqd ?_ GE178.out) | exact HB.out)⟩
                  ((try clear BK172); (try clear BK178); (try clear HB))
                  generalize ((w69.setCell ⟨gb178, 0, none⟩ (.int .i64 ((rd_T61 l0_1 x5_3).f0))).setCell ⟨gb178, 1, none⟩ (.int .i64 ((rd_T61 l0_1 x5_3).f1))) = w72 at n0_ n1_ n2_ ⊢
                  (have BK172 := n0_; have BK178 := n1_; have HB := n2_; clear n0_ n1_ n2_)
                  replace BK172 := zqj (zqb BK172.out); replace BK178 := zqj (zqb BK178.out); replace HB := zqj (zqf HB.out)
                  have p179 : 0 ≤ ((ji58) : Int) := zqh zrs
                  have q179 : (ji58) < (l0_1.length : Int) := zqh zrs
                  obtain ⟨ad179, e179, hx179_0, hx179_1⟩ := at_T61 HR0_1.out (ji58) p179 q179
                  have hw179_1 := hx179_1
                  have hw179_0 := hx179_0
                  obtain rfl : ad177 = ad179 := (by injection e179)
                  replace hx179_0 := zx HB.out hx179_0
                  replace hx179_1 := zx HB.out hx179_1
                  replace p179 := eq_true p179
                  replace q179 := eq_true q179
                  refine start_ (n := 31) (S := fun w' => w'.cell? ⟨gb178, 0, none⟩ = some (.int .i64 ((rd_T61 l0_1 x5_3).f0)) ∧ w'.cell? ⟨gb178, 1, none⟩ = some (.int .i64 ((rd_T61 l0_1 x5_3).f1)) ∧ w'.cell? ⟨gb172, 0, none⟩ = some (.slice A0_0 l0_0.length c0_0) ∧ w'.cell? ⟨gb172, 1, none⟩ = some (.slice (some ad177) l0_1.length c0_1) ∧ w'.cell? ⟨gb172, 2, none⟩ = some (.int .i64 a0_2) ∧ w'.cell? (ad177.add (((ji58)).toNat * 2)) = some (.int .i64 ((rd_T61 l0_1 (ji58)).f0)) ∧ w'.cell? ⟨(ad177.add (((ji58)).toNat * 2)).block, (ad177.add (((ji58)).toNat * 2)).off + 1, none⟩ = some (.int .i64 ((rd_T61 l0_1 (ji58)).f1))) (ds := []) #[false, false, false, false, false, false, false, false, false, false, false, false, false, false, false, false, false, false, false, false, false, false, false, false, false, false, false, false, false, false, false] (by kernel_rfl) rfl rfl ⟨(blk_cell BK178.out 0).trans rfl, (blk_cell BK178.out 1).trans rfl, (blk_cell BK172.out 0).trans rfl, (blk_cell BK172.out 1).trans rfl, (blk_cell BK172.out 2).trans rfl, ((HB.out.cell (World.block_lt_of_cell? w _ hw179_0)).trans hw179_0), ((HB.out.cell (World.block_lt_of_cell? w _ hw179_1)).trans hw179_1)⟩ (fun hHeld => ?_); refine with_tabW copyholdref12_Right.tab13 copyholdref12_Right.bits13 (fun HT_ HW_ => ?_)
                  generalize w72.drew = w73 at BK172 BK178 HB hx179_0 hx179_1 hHeld ⊢
                  refine zp 0 65 (zb 31 1) HT_.out ?_
                  refine zt 1 66 (zb 31 3) HT_.out HW_.out hHeld ?_
                  refine zp 2 67 (zb 31 7) HT_.out ?_
                  refine zp 3 68 (zb 31 15) HT_.out ?_
                  refine zp 4 69 (zb 31 31) HT_.out ?_
                  refine zp 6 71 (zb 31 95) HT_.out ?_
                  refine zt 5 70 (zb 31 127) HT_.out HW_.out hHeld ?_
                  refine zt 7 72 (zb 31 255) HT_.out HW_.out hHeld ?_
                  refine zp 8 73 (zb 31 511) HT_.out ?_
                  refine zp 9 74 (zb 31 1023) HT_.out ?_
                  refine zp 10 75 (zb 31 2047) HT_.out ?_
                  refine zp 11 76 (zb 31 4095) HT_.out ?_
                  refine zt 12 77 (zb 31 8191) HT_.out HW_.out hHeld ?_
                  refine zp 13 78 (zb 31 16383) HT_.out ?_
                  refine zp 14 79 (zb 31 32767) HT_.out ?_
                  refine zp 15 80 (zb 31 65535) HT_.out ?_
                  refine zp 16 81 (zb 31 131071) HT_.out ?_
                  refine zp 17 82 (zb 31 262143) HT_.out ?_
                  refine zp 18 83 (zb 31 524287) HT_.out ?_
                  refine zp 19 84 (zb 31 1048575) HT_.out ?_
                  refine zp 21 86 (zb 31 3145727) HT_.out ?_
                  refine zp 22 87 (zb 31 7340031) HT_.out ?_
                  refine zp 26 91 (zb 31 74448895) HT_.out ?_
                  refine zt 20 85 (zb 31 75497471) HT_.out HW_.out hHeld ?_
                  refine zp 23 88 (zb 31 83886079) HT_.out ?_
                  refine zp 24 89 (zb 31 100663295) HT_.out ?_
                  refine zt 25 90 (zb 31 134217727) HT_.out HW_.out hHeld ?_
                  refine zt 27 92 (zb 31 268435455) HT_.out HW_.out hHeld ?_
                  refine zp 28 93 (zb 31 536870911) HT_.out ?_
                  refine zp 29 94 (zb 31 1073741823) HT_.out ?_
                  refine zp 30 95 (zb 31 2147483647) HT_.out ?_
                  refine done_ (done_of HT_.out (by kernel_rfl)) ?_
                  try go_wp2
                  go_roundg k3
                  case measure => have := HJ1.out; have := HK2.out; have := HK3.out; omega
                  case rel => exact ⟨(wrap64 (x5_3 + 1)), zrt, H', ⟨by have := HJ1.out; have := HK2.out; have := HK3.out; omega⟩, ⟨by (with_reducible repeat (first | refine zqa ?_ _ | refine zqb ?_ | refine zqc ?_ _)); exact BK172.out⟩, ⟨by repeat (first | (with_reducible first | exact HB.out | apply zqg | apply zqe | apply zqf | refine zqd ?_ GE172.out | refine zqd ?_ GE178.out) | exact HB.out)⟩⟩
                ·rw [if_neg c60] at H
                 exact absurd H (by simp)
               ·rw [if_neg c59] at H
                exact absurd H (by simp)
              ·rw [if_neg c57] at H
               have c57b0 : decide (0 < x5_3) = false := decide_eq_false c57
               clear c57
               have H' := zqj H
               clear H
               obtain ⟨hcz74_0, hcz74_1, hcz74_2⟩ := zc3 BK172.out
               (obtain ⟨hfz74_0, hfz74_1, hfz74_2⟩ := zf3 BK172.out)
               have p177 : 0 ≤ (x5_3 : Int) := zqh zrs
               have q177 : x5_3 < (l0_1.length : Int) := zqh zrs
               obtain ⟨ad177, e177, hx177_0, hx177_1⟩ := at_T61 HR0_1.out x5_3 p177 q177
               cases e177
               replace hx177_0 := zx HB.out hx177_0
               replace hx177_1 := zx HB.out hx177_1
               replace p177 := eq_true p177
               replace q177 := eq_true q177
               try go_wp2_with (first | ((with_reducible refine gate_dst (N := 6) rfl ?_); (try (refine gate_guard (by rfl) ?_; dsimp only)); refine box_event ?hg (N := 6) ?hd (cs := #[.int .i64 0, .int .i64 0]) (t := 61) ?hr ?_; (case hd => rfl); (case hg => rfl); (case hr => exact zrr); intro gb178 hg w75 hbox hb; have n0_ := zqj (blk_below (g := gb172) (o := .cells #[.slice A0_0 l0_0.length c0_0, .slice (some ad177) l0_1.length c0_1, .int .i64 a0_2] 25 (0, 0)) (zrb BK172.out) hb); have n1_ := zqj (below_step (zrd1 HB.out GE172.out) hb); have n2_ := zqj (hbox); have n3_ := zqj ((by rw [hg]; exact (below_size (zrd1 HB.out GE172.out)) : w.heap.size ≤ gb178)); have n4_ := zqj ((by rw [hg]; exact (below_size (zrd1 HB.out GE172.out)) : w.heap.size ≤ gb178)); have n5_ := zqj ((by rw [hg]; exact Nat.ne_of_lt (blk_lt (g := gb172) (o := .cells #[.slice A0_0 l0_0.length c0_0, .slice (some ad177) l0_1.length c0_1, .int .i64 a0_2] 25 (0, 0)) (zrb BK172.out)) : gb172 ≠ gb178)); have n6_ := zqj ((by rw [hg]; exact Nat.ne_of_gt (blk_lt (g := gb172) (o := .cells #[.slice A0_0 l0_0.length c0_0, .slice (some ad177) l0_1.length c0_1, .int .i64 a0_2] 25 (0, 0)) (zrb BK172.out)) : gb178 ≠ gb172)); clear BK172; clear HB; have BK172 := n0_; have HB := n1_; have BK178 := n2_; have GW178 := n3_; have GE178 := n4_; have NB172_178 := n5_; have NB178_172 := n6_; clear n0_ n1_ n2_ n3_ n4_ n5_ n6_; clear hb hbox hg; have hnb76 := NB178_172.out; have hnc76 := NB172_178.out; obtain ⟨hcz77_0, hcz77_1⟩ := zc2 BK178.out; obtain ⟨hfz77_0, hfz77_1⟩ := zf2 BK178.out))
               have n0_ : Aside0 (((w75.setCell ⟨gb178, 0, none⟩ (.int .i64 ((rd_T61 l0_1 x5_3).f0))).setCell ⟨gb178, 1, none⟩ (.int .i64 ((rd_T61 l0_1 x5_3).f1))).heap[gb172]? = some (.cells #[.slice A0_0 l0_0.length c0_0, .slice (some ad177) l0_1.length c0_1, .int .i64 a0_2] 25 (0, 0))) := ⟨by (iterate 2 ((with_reducible repeat (first | refine zqa ?_ _ | refine zqb ?_ | refine zqc ?_ _)); refine blk_far ?_ NB172_178.out _)); (with_reducible repeat (first | refine zqa ?_ _ | refine zqb ?_ | refine zqc ?_ _)); exact BK172.out⟩
               have n1_ : Aside0 (((w75.setCell ⟨gb178, 0, none⟩ (.int .i64 ((rd_T61 l0_1 x5_3).f0))).setCell ⟨gb178, 1, none⟩ (.int .i64 ((rd_T61 l0_1 x5_3).f1))).heap[gb178]? = some (.cells #[.int .i64 ((rd_T61 l0_1 x5_3).f0), .int .i64 ((rd_T61 l0_1 x5_3).f1)] 61 (0, 0))) := ⟨by (with_reducible repeat (first | refine zqa ?_ _ | refine zqb ?_ | refine zqc ?_ _)); refine blk_put (cs := #[.int .i64 ((rd_T61 l0_1 x5_3).f0), .int .i64 0]) ?_ 1 _ rfl; (with_reducible repeat (first | refine zqa ?_ _ | refine zqb ?_ | refine zqc ?_ _)); refine blk_put (cs := #[.int .i64 0, .int .i64 0]) ?_ 0 _ rfl; (with_reducible repeat (first | refine zqa ?_ _ | refine zqb ?_ | refine zqc ?_ _)); exact BK178.out⟩
               have n2_ : Aside0 (Below w.heap.size w ((w75.setCell ⟨gb178, 0, none⟩ (.int .i64 ((rd_T61 l0_1 x5_3).f0))).setCell ⟨gb178, 1, none⟩ (.int .i64 ((rd_T61 l0_1 x5_3).f1)))) := ⟨by repeat (first | (with_reducible first | exact HB.out | apply zqg | apply zqe | apply zqf | refine zqd ?_ GE172.out | refine zqd ?_ GE178.out) | exact HB.out)⟩
               ((try clear BK172); (try clear BK178); (try clear HB))
               generalize ((w75.setCell ⟨gb178, 0, none⟩ (.int .i64 ((rd_T61 l0_1 x5_3).f0))).setCell ⟨gb178, 1, none⟩ (.int .i64 ((rd_T61 l0_1 x5_3).f1))) = w78 at n0_ n1_ n2_ ⊢
               (have BK172 := n0_; have BK178 := n1_; have HB := n2_; clear n0_ n1_ n2_)
               replace BK172 := zqj (zqb BK172.out); replace BK178 := zqj (zqb BK178.out); replace HB := zqj (zqf HB.out)
               refine start_ (n := 31) (S := fun w' => w'.cell? ⟨gb178, 0, none⟩ = some (.int .i64 ((rd_T61 l0_1 x5_3).f0)) ∧ w'.cell? ⟨gb178, 1, none⟩ = some (.int .i64 ((rd_T61 l0_1 x5_3).f1)) ∧ w'.cell? ⟨gb172, 0, none⟩ = some (.slice A0_0 l0_0.length c0_0) ∧ w'.cell? ⟨gb172, 1, none⟩ = some (.slice (some ad177) l0_1.length c0_1) ∧ w'.cell? ⟨gb172, 2, none⟩ = some (.int .i64 a0_2)) (ds := []) #[false, false, false, false, false, false, false, false, false, false, false, false, false, false, false, false, false, false, false, false, false, false, false, false, false, false, false, false, false, false, false] (by kernel_rfl) rfl rfl ⟨(blk_cell BK178.out 0).trans rfl, (blk_cell BK178.out 1).trans rfl, (blk_cell BK172.out 0).trans rfl, (blk_cell BK172.out 1).trans rfl, (blk_cell BK172.out 2).trans rfl⟩ (fun hHeld => ?_); refine with_tabW copyholdref12_Right.tab13 copyholdref12_Right.bits13 (fun HT_ HW_ => ?_)
               generalize w78.drew = w79 at BK172 BK178 HB hHeld ⊢
               refine zp 0 65 (zb 31 1) HT_.out ?_
               refine zt 1 66 (zb 31 3) HT_.out HW_.out hHeld ?_
               refine zp 2 67 (zb 31 7) HT_.out ?_
               refine zp 3 68 (zb 31 15) HT_.out ?_
               refine zp 4 69 (zb 31 31) HT_.out ?_
               refine zp 6 71 (zb 31 95) HT_.out ?_
               refine zt 5 70 (zb 31 127) HT_.out HW_.out hHeld ?_
               refine zt 7 72 (zb 31 255) HT_.out HW_.out hHeld ?_
               refine zp 8 73 (zb 31 511) HT_.out ?_
               refine zp 9 74 (zb 31 1023) HT_.out ?_
               refine zp 10 75 (zb 31 2047) HT_.out ?_
               refine zp 11 76 (zb 31 4095) HT_.out ?_
               refine zt 12 77 (zb 31 8191) HT_.out HW_.out hHeld ?_
               refine zp 13 78 (zb 31 16383) HT_.out ?_
               refine zp 14 79 (zb 31 32767) HT_.out ?_
               refine zp 15 80 (zb 31 65535) HT_.out ?_
               refine zp 16 81 (zb 31 131071) HT_.out ?_
               refine zp 17 82 (zb 31 262143) HT_.out ?_
               refine zp 18 83 (zb 31 524287) HT_.out ?_
               refine zq 19 84 (zb 31 1048575) HT_.out ?_
               refine zq 20 85 (zb 31 2097151) HT_.out ?_
               refine zq 21 86 (zb 31 4194303) HT_.out ?_
               refine zq 22 87 (zb 31 8388607) HT_.out ?_
               refine zq 23 88 (zb 31 16777215) HT_.out ?_
               refine zq 24 89 (zb 31 33554431) HT_.out ?_
               refine zq 25 90 (zb 31 67108863) HT_.out ?_
               refine zq 26 91 (zb 31 134217727) HT_.out ?_
               refine zq 27 92 (zb 31 268435455) HT_.out ?_
               refine zq 28 93 (zb 31 536870911) HT_.out ?_
               refine zp 29 94 (zb 31 1073741823) HT_.out ?_
               refine zp 30 95 (zb 31 2147483647) HT_.out ?_
               refine done_ (done_of HT_.out (by kernel_rfl)) ?_
               try go_wp2
               go_roundg k3
               case measure => have := HJ1.out; have := HK2.out; have := HK3.out; omega
               case rel => exact ⟨(wrap64 (x5_3 + 1)), zrt, H', ⟨by have := HJ1.out; have := HK2.out; have := HK3.out; omega⟩, ⟨by (with_reducible repeat (first | refine zqa ?_ _ | refine zqb ?_ | refine zqc ?_ _)); exact BK172.out⟩, ⟨by repeat (first | (with_reducible first | exact HB.out | apply zqg | apply zqe | apply zqf | refine zqd ?_ GE172.out | refine zqd ?_ GE178.out) | exact HB.out)⟩⟩
          ·rw [if_neg c35] at H
           exact absurd H (by simp)
         ·rw [if_neg c34] at H
          have c34b0 : decide (x5_3 < (l0_1.length : Int)) = false := decide_eq_false c34
          clear c34
          obtain rfl := Option.some.inj H
          obtain ⟨hcz80_0, hcz80_1, hcz80_2⟩ := zc3 BK172.out
          (obtain ⟨hfz80_0, hfz80_1, hfz80_2⟩ := zf3 BK172.out)
          go_wp2
          go_ret
          exact ⟨zru, by repeat (first | (with_reducible first | exact HB.out | apply zqg | apply zqe | apply zqf | refine zqd ?_ GE172.out) | exact HB.out)⟩
end Go.Proofs.Ytdkgkiemndlneaa.Q
end
