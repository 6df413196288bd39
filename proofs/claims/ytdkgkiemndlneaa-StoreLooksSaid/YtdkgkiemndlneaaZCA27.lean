import Derived.Test.YtdkgkiemndlneaaZCA25
import Derived.Test.YtdkgkiemndlneaaZCA23
import Derived.Test.YtdkgkiemndlneaaZCA26
import Derived.Test.YtdkgkiemndlneaaZCAA
set_option linter.unusedVariables false
set_option linter.unusedSimpArgs false
section
namespace Go.Proofs.Ytdkgkiemndlneaa.Q
open Go.RowKit Go.Proofs.YtdkgkiemndlneaaW.PrintWords Go.Proofs.YtdkgkiemndlneaaW.PrintLast Go.Proofs.YtdkgkiemndlneaaW.PrintMore
attribute [local go_sem] max2_int min2_int max_two min_two max_three min_three max_four min_four   -- for this text's walks alone
open Go.Proofs.Ytdkgkiemndlneaa.X
attribute [local go_sem high] Go.Proofs.Ytdkgkiemndlneaa.px_xor_u8 Go.Proofs.Ytdkgkiemndlneaa.px_xor_u16 Go.Proofs.Ytdkgkiemndlneaa.px_xor_u32 Go.Proofs.Ytdkgkiemndlneaa.px_xor_u64
def store_Since.l0 : Nat → Int → List Int → List (S55) → Int → Int → List (S55) → List (S61) → Int → Option (List Int)
 | 0, _, _, _, _, _, _, _, _ => none
 | k + 1, x1, x5, x9, x10, x11, x181000, x181001, x181002 => if x11 < x10 then (if 0 ≤ x11 then (if x11 < (x9.length : Int) then (if 0 ≤ (wrap64 ((((rd_T55 x9 x11).f1).length : Int) - 1)) then (if (wrap64 ((((rd_T55 x9 x11).f1).length : Int) - 1)) < (((rd_T55 x9 x11).f1).length : Int) then (if ((rd_T58 ((rd_T55 x9 x11).f1) (wrap64 ((((rd_T55 x9 x11).f1).length : Int) - 1))).f0) > x1 then (if x5.length < 17592186044416 then (store_Since.l0 k x1 (x5 ++ [(rd_T55 x9 x11).f0]) x9 x10 (wrap64 (x11 + 1)) x181000 x181001 x181002) else (none)) else (store_Since.l0 k x1 x5 x9 x10 (wrap64 (x11 + 1)) x181000 x181001 x181002)) else (none)) else (none)) else (none)) else (none)) else (if (x5.length : Int) > 0 then ((some (([0] : List Int) : List Int)).bind fun y187 => (if y187.length + x5.length < 17592186044416 then (some (y187 ++ x5)) else (none))) else (if 0 ≤ (wrap64 ((x181001.length : Int) - 1)) then (if (wrap64 ((x181001.length : Int) - 1)) < (x181001.length : Int) then (if ((rd_T61 x181001 (wrap64 ((x181001.length : Int) - 1))).f0) > x1 then ((some (([0] : List Int) : List Int)).bind fun y194 => (if y194.length + x5.length < 17592186044416 then (some (y194 ++ x5)) else (none))) else (some ([] : List Int))) else (none)) else (none)))
def store_Since.f (k : Nat) (l0_0 : List (S55)) (l0_1 : List (S61)) (a0_2 : Int) (a1 : Int) : Option (List Int) := store_Since.l0 k a1 ([] : List Int) l0_0 (l0_0.length : Int) 0 l0_0 l0_1 a0_2
theorem store_Since.mono_l : ∀ k, (∀ y0 y1 y2 y3 y4 y5 y6 y7, LeO (store_Since.l0 k y0 y1 y2 y3 y4 y5 y6 y7) (store_Since.l0 (k + 1) y0 y1 y2 y3 y4 y5 y6 y7))
 | 0 => fun _ _ _ _ _ _ _ _ r h => by simp [store_Since.l0] at h
 | k + 1 => by
  have ih0 := store_Since.mono_l k
  ·intro y0 y1 y2 y3 y4 y5 y6 y7
   unfold store_Since.l0
   repeat' first
   | (with_reducible exact ih0 _ _ _ _ _ _ _ _)
   | (with_reducible exact LeO.refl _)
   | (with_reducible exact LeO.none _)
   | (with_reducible refine LeO.ite ?_ ?_)
   | (with_reducible refine LeO.bind ?_ (fun _ => ?_))
   | exact ih0 _ _ _ _ _ _ _ _
   | exact LeO.none _
   | refine LeO.ite ?_ ?_
   | refine LeO.bind ?_ (fun _ => ?_)
theorem store_Since.mono : ∀ a0 a1 a2 a3 k, LeO (store_Since.f k a0 a1 a2 a3) (store_Since.f (k + 1) a0 a1 a2 a3) := by
 intro a0 a1 a2 a3 k
 have ih0 := store_Since.mono_l k
 unfold store_Since.f
 repeat' first
   | (with_reducible exact ih0 _ _ _ _ _ _ _ _)
   | (with_reducible exact LeO.refl _)
   | (with_reducible exact LeO.none _)
   | (with_reducible refine LeO.ite ?_ ?_)
   | (with_reducible refine LeO.bind ?_ (fun _ => ?_))
   | exact ih0 _ _ _ _ _ _ _ _
   | exact LeO.none _
   | refine LeO.ite ?_ ?_
   | refine LeO.bind ?_ (fun _ => ?_)
set_option maxHeartbeats 8000000 in
set_option maxRecDepth 100000 in
theorem store_Since.calls (k : Nat) (A0_0 : Option Addr) (c0_0 : Nat) (l0_0 : List (S55)) (A0_1 : Option Addr) (c0_1 : Nat) (l0_1 : List (S61)) (a0_2 : Int) (a1 : Int) (r : List Int) (w : World) (hr0_0 : Kd.C k55 w A0_0 l0_0.length l0_0) (hc0_0 : l0_0.length ≤ c0_0) (hr0_1 : Kd.C k61 w A0_1 l0_1.length l0_1) (hc0_1 : l0_1.length ≤ c0_1) (h : store_Since.f k l0_0 l0_1 a0_2 a1 = some r) :
  Calls Try.prog 11 #[.agg #[.slice A0_0 l0_0.length c0_0, .slice A0_1 l0_1.length c0_1, .int .i64 a0_2], .int .i64 a1] w fun e w' => ∃ v0_ : Value, e = .returned (v0_) ∧ Kd.R (Kd.int .i64) 3 w' w.heap.size (fun _ => True) v0_ r ∧ Below w.heap.size w w' := by
 have hu25 := Try.underlying25
 have hu55 := Try.underlying55
 have HR0_0 := zqj hr0_0
 have HC0_0 := zqj hc0_0
 clear hr0_0 hc0_0
 have HR0_1 := zqj hr0_1
 have HC0_1 := zqj hc0_1
 clear hr0_1 hc0_1
 have HB := zqj (Below.refl w.heap.size w)
 have H : (store_Since.l0 k a1 ([] : List Int) l0_0 (l0_0.length : Int) 0 l0_0 l0_1 a0_2) = some r := h
 clear h
 have H' := zqj H
 clear H
 go_enter Try.func11, Try.ntmps11
 go_wp2_with (first | ((with_reducible refine gate_dst (N := 2) rfl ?_); (try (refine gate_guard (by rfl) ?_; dsimp only)); refine box_event ?hg (N := 2) ?hd (cs := #[.slice A0_0 l0_0.length c0_0, .slice A0_1 l0_1.length c0_1, .int .i64 a0_2]) (t := 25) ?hr ?_; (case hd => rfl); (case hg => rfl); (case hr => exact zrr); intro gb180 hg w3 hbox hb; have n0_ := zqj (below_step (zrd0 HB.out) hb); have n1_ := zqj (hbox); have n2_ : Aside0 (w.heap.size ≤ gb180) := ⟨by rw [hg]; exact below_size (zrd0 HB.out)⟩; have n3_ := n2_; clear HB; have HB := n0_; have BK180 := n1_; have GW180 := n2_; have GE180 := n3_; clear n0_ n1_ n2_ n3_; clear hb hbox hg; obtain ⟨hcz4_0, hcz4_1, hcz4_2⟩ := zc3 BK180.out; obtain ⟨hfz4_0, hfz4_1, hfz4_2⟩ := zf3 BK180.out))
 go_loopg [5, 11] k (fun kq v5 v11 w' => ∃ (x5_1 : List Int) (x11_1 : Int), v11 = .int .i64 x11_1 ∧ Aside0 (store_Since.l0 kq a1 x5_1 l0_0 (l0_0.length : Int) x11_1 l0_0 l0_1 a0_2 = some r) ∧ Aside0 (kq ≤ k) ∧ Aside0 (Kd.R (Kd.int .i64) 3 w' w.heap.size (fun _ => True) v5 x5_1) ∧ Aside0 (w'.heap[gb180]? = some (.cells #[(.slice A0_0 l0_0.length c0_0), (.slice A0_1 l0_1.length c0_1), .int .i64 a0_2] 25 (0, 0))) ∧ Aside0 (Below w.heap.size w w'))
 case atStart => exact ⟨(([] : List Int)), (0), zrt, H', ⟨Nat.le_refl _⟩, ⟨by first | exact Kd.R_nil _ _ _ _ _ | exact Kd.N_nil _ _ _ _ _ | exact Kd.V_nil _ _ _ _ _ | exact Kd.Q_nil _ _ _ _ _ | exact Kd.S_nil _ _ _ _ _⟩, ⟨by (with_reducible repeat (first | refine zqa ?_ _ | refine zqb ?_ | refine zqc ?_ _)); exact BK180.out⟩, ⟨by repeat (first | (with_reducible first | exact HB.out | apply zqg | apply zqe | apply zqf | refine zqd ?_ GE180.out) | exact HB.out)⟩⟩
 case round =>
  clear H'
  ((try clear c1); (try clear p2); (try clear hcz4_0); (try clear hcz4_1); (try clear hcz4_2); (try clear hfz4_0); (try clear hfz4_1); (try clear hfz4_2))
  obtain ⟨x5_1, x11_1, rfl, HA, HK1, HO_5, BK180, HB⟩ := hrel
  cases gk with
  | zero => exact absurd HA.out (by simp [store_Since.l0])
  | succ k1 =>
   (have H := HA.out; clear HA)
   simp only [store_Since.l0] at H
   by_cases c5 : x11_1 < (l0_0.length : Int)
   ·rw [if_pos c5] at H
    have c5b0 : decide (x11_1 < (l0_0.length : Int)) = true := decide_eq_true c5
    clear c5
    by_cases c6 : 0 ≤ x11_1
    ·rw [if_pos c6] at H
     have c6b0 : decide (0 ≤ x11_1) = true := decide_eq_true c6
     clear c6
     by_cases c7 : x11_1 < (l0_0.length : Int)
     ·rw [if_pos c7] at H
      have c7b0 : decide (x11_1 < (l0_0.length : Int)) = true := decide_eq_true c7
      clear c7
      obtain ⟨ji8, hji8⟩ : ∃ j_ : Int, (wrap64 ((((rd_T55 l0_0 x11_1).f1).length : Int) - 1)) = j_ := ⟨_, rfl⟩
      replace H : (if 0 ≤ (ji8) then (if (ji8) < (((rd_T55 l0_0 x11_1).f1).length : Int) then (if ((rd_T58 ((rd_T55 l0_0 x11_1).f1) (ji8)).f0) > a1 then (if x5_1.length < 17592186044416 then (store_Since.l0 k1 a1 (x5_1 ++ [(rd_T55 l0_0 x11_1).f0]) l0_0 (l0_0.length : Int) (wrap64 (x11_1 + 1)) l0_0 l0_1 a0_2) else (none)) else (store_Since.l0 k1 a1 x5_1 l0_0 (l0_0.length : Int) (wrap64 (x11_1 + 1)) l0_0 l0_1 a0_2)) else (none)) else (none)) = some r := by first | (rw [hji8] at H; exact H) | (simp only [hji8] at H ⊢; exact H)
      have hji8w : (IntKind.i64.wrap ((((rd_T55 l0_0 x11_1).f1).length : Int) - 1)) = ji8 := (i64_w _).trans hji8
      by_cases c9 : 0 ≤ (ji8)
      ·rw [if_pos c9] at H
       have c9b0 : decide (0 ≤ (ji8)) = true := decide_eq_true c9
       clear c9
       by_cases c10 : (ji8) < (((rd_T55 l0_0 x11_1).f1).length : Int)
       ·rw [if_pos c10] at H
        have c10b0 : decide ((ji8) < (((rd_T55 l0_0 x11_1).f1).length : Int)) = true := decide_eq_true c10
        clear c10
        by_cases c11 : ((rd_T58 ((rd_T55 l0_0 x11_1).f1) (ji8)).f0) > a1
        ·rw [if_pos c11] at H
         have c11b0 : decide (a1 < ((rd_T58 ((rd_T55 l0_0 x11_1).f1) (ji8)).f0)) = true := decide_eq_true c11
         clear c11
         by_cases c12 : x5_1.length < 17592186044416
         ·rw [if_pos c12] at H
          have LMc12 := zqj c12
          clear c12
          obtain ⟨y184, hy184⟩ : ∃ y_ : List Int, y_ = (x5_1 ++ [(rd_T55 l0_0 x11_1).f0]) := ⟨_, rfl⟩
          replace H : (store_Since.l0 k1 a1 y184 l0_0 (l0_0.length : Int) (wrap64 (x11_1 + 1)) l0_0 l0_1 a0_2) = some r := by first | (rw [hy184]; with_reducible exact H) | (have H2_ := (Option.bind_some _ _).symm.trans H; rw [hy184]; with_reducible exact H2_) | (have H2_ := (Option.bind_some _ _).symm.trans H; with_reducible exact H2_) | with_reducible exact H | (rw [hy184]; exact H) | exact H
          have Ny184 := zqj hy184
          clear hy184
          have H' := zqj H
          clear H
          have p181 : 0 ≤ (x11_1 : Int) := zqh zrs
          have q181 : x11_1 < (l0_0.length : Int) := zqh zrs
          obtain ⟨ad181, A181_1, c181_1, e181, hx181_0, hx181_1, hl181_1, hi181_1⟩ := at_T55 HR0_0.out x11_1 p181 q181
          cases e181
          replace hx181_0 := zx HB.out hx181_0
          replace hx181_1 := zx HB.out hx181_1
          have HR181_1 := zqj hi181_1
          have HC181_1 := zqj hl181_1
          clear hi181_1 hl181_1
          replace p181 := eq_true p181
          replace q181 := eq_true q181
          go_wp2_with (first | ((with_reducible refine gate_dst (N := 7) rfl ?_); (try (refine gate_guard (by rfl) ?_; dsimp only)); refine box_event ?hg (N := 7) ?hd (cs := #[.int .i64 0, .slice none 0 0]) (t := 55) ?hr ?_; (case hd => rfl); (case hg => rfl); (case hr => exact zrr); intro gb182 hg w13 hbox hb; have n0_ := zqj (Kd.R_below (zrR HO_5.out) hb); have n1_ := zqj (blk_below (g := gb180) (o := .cells #[.slice (some ad181) l0_0.length c0_0, .slice A0_1 l0_1.length c0_1, .int .i64 a0_2] 25 (0, 0)) (zrb BK180.out) hb); have n2_ := zqj (below_step (zrd1 HB.out GE180.out) hb); have n3_ := zqj (hbox); have n4_ := zqj ((by rw [hg]; exact (below_size (zrd1 HB.out GE180.out)) : w.heap.size ≤ gb182)); have n5_ := zqj ((by rw [hg]; exact (below_size (zrd1 HB.out GE180.out)) : w.heap.size ≤ gb182)); have n6_ := zqj ((by rw [hg]; exact Nat.ne_of_lt (blk_lt (g := gb180) (o := .cells #[.slice (some ad181) l0_0.length c0_0, .slice A0_1 l0_1.length c0_1, .int .i64 a0_2] 25 (0, 0)) (zrb BK180.out)) : gb180 ≠ gb182)); have n7_ := zqj ((by rw [hg]; exact Nat.ne_of_gt (blk_lt (g := gb180) (o := .cells #[.slice (some ad181) l0_0.length c0_0, .slice A0_1 l0_1.length c0_1, .int .i64 a0_2] 25 (0, 0)) (zrb BK180.out)) : gb182 ≠ gb180)); clear HO_5; clear BK180; clear HB; have HO_5 := n0_; have BK180 := n1_; have HB := n2_; have BK182 := n3_; have GW182 := n4_; have GE182 := n5_; have NB180_182 := n6_; have NB182_180 := n7_; clear n0_ n1_ n2_ n3_ n4_ n5_ n6_ n7_; clear hb hbox hg; have hnb14 := NB182_180.out; have hnc14 := NB180_182.out; obtain ⟨hcz15_0, hcz15_1⟩ := zc2 BK182.out; obtain ⟨hfz15_0, hfz15_1⟩ := zf2 BK182.out; have p183 : 0 ≤ ((ji8) : Int) := zqh zrs; have q183 : (ji8) < (((rd_T55 l0_0 x11_1).f1).length : Int) := zqh zrs; obtain ⟨ad183, A183_6, c183_6, e183, hx183_0, hx183_1, hx183_2, hx183_3, hx183_4, hx183_5, hx183_6, hl183_6, hi183_6⟩ := at_T58 HR181_1.out (ji8) p183 q183; cases e183; have hn183_0 : ad183.block ≠ gb182 := Nat.ne_of_lt (Nat.lt_of_lt_of_le (by have := World.block_lt_of_cell? _ _ hx183_0; first | rwa [add_block] at this | exact this) GW182.out); have hn183_1 : ad183.block ≠ gb182 := Nat.ne_of_lt (Nat.lt_of_lt_of_le (by have := World.block_lt_of_cell? _ _ hx183_0; first | rwa [add_block] at this | exact this) GW182.out); replace hx183_0 := zx HB.out hx183_0; replace hx183_1 := zx HB.out hx183_1; replace hx183_2 := zx HB.out hx183_2; replace hx183_3 := zx HB.out hx183_3; replace hx183_4 := zx HB.out hx183_4; replace hx183_5 := zx HB.out hx183_5; replace hx183_6 := zx HB.out hx183_6; have HR183_6 := zqj hi183_6; have HC183_6 := zqj hl183_6; clear hi183_6 hl183_6; replace hx183_0 := (cell_far (p := ⟨gb182, 0, none⟩) (zrn hn183_0) (.int .i64 ((rd_T55 l0_0 x11_1).f0))).trans hx183_0; replace hx183_1 := (cell_far (p := ⟨gb182, 0, none⟩) (zrn hn183_0) (.int .i64 ((rd_T55 l0_0 x11_1).f0))).trans hx183_1; replace hx183_2 := (cell_far (p := ⟨gb182, 0, none⟩) (zrn hn183_0) (.int .i64 ((rd_T55 l0_0 x11_1).f0))).trans hx183_2; replace hx183_3 := (cell_far (p := ⟨gb182, 0, none⟩) (zrn hn183_0) (.int .i64 ((rd_T55 l0_0 x11_1).f0))).trans hx183_3; replace hx183_4 := (cell_far (p := ⟨gb182, 0, none⟩) (zrn hn183_0) (.int .i64 ((rd_T55 l0_0 x11_1).f0))).trans hx183_4; replace hx183_5 := (cell_far (p := ⟨gb182, 0, none⟩) (zrn hn183_0) (.int .i64 ((rd_T55 l0_0 x11_1).f0))).trans hx183_5; replace hx183_6 := (cell_far (p := ⟨gb182, 0, none⟩) (zrn hn183_0) (.int .i64 ((rd_T55 l0_0 x11_1).f0))).trans hx183_6; replace hx183_0 := (cell_far (p := ⟨gb182, 1, none⟩) (zrn hn183_1) (.slice (some ad183) ((rd_T55 l0_0 x11_1).f1).length c181_1)).trans hx183_0; replace hx183_1 := (cell_far (p := ⟨gb182, 1, none⟩) (zrn hn183_1) (.slice (some ad183) ((rd_T55 l0_0 x11_1).f1).length c181_1)).trans hx183_1; replace hx183_2 := (cell_far (p := ⟨gb182, 1, none⟩) (zrn hn183_1) (.slice (some ad183) ((rd_T55 l0_0 x11_1).f1).length c181_1)).trans hx183_2; replace hx183_3 := (cell_far (p := ⟨gb182, 1, none⟩) (zrn hn183_1) (.slice (some ad183) ((rd_T55 l0_0 x11_1).f1).length c181_1)).trans hx183_3; replace hx183_4 := (cell_far (p := ⟨gb182, 1, none⟩) (zrn hn183_1) (.slice (some ad183) ((rd_T55 l0_0 x11_1).f1).length c181_1)).trans hx183_4; replace hx183_5 := (cell_far (p := ⟨gb182, 1, none⟩) (zrn hn183_1) (.slice (some ad183) ((rd_T55 l0_0 x11_1).f1).length c181_1)).trans hx183_5; replace hx183_6 := (cell_far (p := ⟨gb182, 1, none⟩) (zrn hn183_1) (.slice (some ad183) ((rd_T55 l0_0 x11_1).f1).length c181_1)).trans hx183_6; clear hn183_0; clear hn183_1; replace p183 := eq_true p183; replace q183 := eq_true q183) | ((with_reducible refine gate_builtin (b := .append) (xs := #[.tmp 26, .tmp 29]) rfl ?_); (try (refine gate_guard (by rfl) ?_; dsimp only)); at_builtin; refine Kd.R_append (Kd.int .i64) (w0 := w) w.heap.size rfl (.tmp 26) (.tmp 29) 28 3 (.int .i64 0) 8 rfl Try.underlying28 info3 rfl (by decide) (by omega) u5 x5_1 ((rd_T55 l0_0 x11_1).f0) [.int .i64 ((rd_T55 l0_0 x11_1).f0)] (fun _ => True) (fun _ => False) rfl (by first | (go_simp; done) | (go_simp; rfl)) ?aP (fun _ hk => hk.elim) ?aF ?aO ?aB ?aS ?aL ?_; (case aP => exact rfl); (case aB => exact (zrd2 HB.out GE180.out GE182.out)); (case aF => exact (fun _ _ => trivial)); (case aO => exact (by (with_reducible repeat (first | apply Kd.R_alloc | apply Kd.R_drewN | apply Kd.R_drew)); exact Kd.R_mono (Kd.R_far (p := ⟨gb182, 1, none⟩) (Kd.R_far (p := ⟨gb182, 0, none⟩) (Kd.R_types HO_5.out BK182.out (by decide)) (fun _ hk => hk.2) (.int .i64 ((rd_T55 l0_0 x11_1).f0))) (fun _ hk => hk.2) (.slice (some ad183) ((rd_T55 l0_0 x11_1).f1).length c181_1)) (fun _ hk => trivial))); (case aS => exact (below_size (zrd2 HB.out GE180.out GE182.out))); (case aL => have := LMc12.out; omega); intro v185 w16 ho hb hg hat; rw [← Ny184.out] at ho; have n0_ := zqj (blk_grown (g := gb180) (o := .cells #[.slice (some ad181) l0_0.length c0_0, .slice A0_1 l0_1.length c0_1, .int .i64 a0_2] 25 (0, 0)) (by (iterate 2 ((with_reducible repeat (first | refine zqa ?_ _ | refine zqb ?_ | refine zqc ?_ _)); refine blk_far ?_ NB180_182.out _)); (with_reducible repeat (first | refine zqa ?_ _ | refine zqb ?_ | refine zqc ?_ _)); exact BK180.out) hg (Kd.R_ne HO_5.out BK180.out (by decide))); have n1_ := zqj (blk_grown (g := gb182) (o := .cells #[.int .i64 ((rd_T55 l0_0 x11_1).f0), .slice (some ad183) ((rd_T55 l0_0 x11_1).f1).length c181_1] 55 (0, 0)) (by (with_reducible repeat (first | refine zqa ?_ _ | refine zqb ?_ | refine zqc ?_ _)); refine blk_put (cs := #[.int .i64 ((rd_T55 l0_0 x11_1).f0), .slice none 0 0]) ?_ 1 _ rfl; (with_reducible repeat (first | refine zqa ?_ _ | refine zqb ?_ | refine zqc ?_ _)); refine blk_put (cs := #[.int .i64 0, .slice none 0 0]) ?_ 0 _ rfl; (with_reducible repeat (first | refine zqa ?_ _ | refine zqb ?_ | refine zqc ?_ _)); exact BK182.out) hg (Kd.R_ne HO_5.out BK182.out (by decide))); have n2_ := zqj (hb); have n3_ := zqj (ho); clear BK180; clear BK182; clear HB; clear HO_5; have BK180 := n0_; have BK182 := n1_; have HB := n2_; have HO186 := n3_; clear n0_ n1_ n2_ n3_; clear ho hb hg hat))
          go_roundg k1
          case measure => have := HK1.out; omega
          case rel => exact ⟨(y184), (wrap64 (x11_1 + 1)), zrt, H', ⟨by have := HK1.out; omega⟩, ⟨by (with_reducible repeat (first | apply Kd.R_alloc | apply Kd.R_drewN | apply Kd.R_drew)); exact HO186.out⟩, ⟨by (with_reducible repeat (first | refine zqa ?_ _ | refine zqb ?_ | refine zqc ?_ _)); exact BK180.out⟩, ⟨by repeat (first | (with_reducible first | exact HB.out | apply zqg | apply zqe | apply zqf | refine zqd ?_ GE180.out | refine zqd ?_ GE182.out) | exact HB.out)⟩⟩
         ·rw [if_neg c12] at H
          exact absurd H (by simp)
        ·rw [if_neg c11] at H
         have c11b0 : decide (a1 < ((rd_T58 ((rd_T55 l0_0 x11_1).f1) (ji8)).f0)) = false := decide_eq_false c11
         clear c11
         have H' := zqj H
         clear H
         have p181 : 0 ≤ (x11_1 : Int) := zqh zrs
         have q181 : x11_1 < (l0_0.length : Int) := zqh zrs
         obtain ⟨ad181, A181_1, c181_1, e181, hx181_0, hx181_1, hl181_1, hi181_1⟩ := at_T55 HR0_0.out x11_1 p181 q181
         cases e181
         replace hx181_0 := zx HB.out hx181_0
         replace hx181_1 := zx HB.out hx181_1
         have HR181_1 := zqj hi181_1
         have HC181_1 := zqj hl181_1
         clear hi181_1 hl181_1
         replace p181 := eq_true p181
         replace q181 := eq_true q181
         go_wp2_with (first | ((with_reducible refine gate_dst (N := 7) rfl ?_); (try (refine gate_guard (by rfl) ?_; dsimp only)); refine box_event ?hg (N := 7) ?hd (cs := #[.int .i64 0, .slice none 0 0]) (t := 55) ?hr ?_; (case hd => rfl); (case hg => rfl); (case hr => exact zrr); intro gb182 hg w17 hbox hb; have n0_ := zqj (Kd.R_below (zrR HO_5.out) hb); have n1_ := zqj (blk_below (g := gb180) (o := .cells #[.slice (some ad181) l0_0.length c0_0, .slice A0_1 l0_1.length c0_1, .int .i64 a0_2] 25 (0, 0)) (zrb BK180.out) hb); have n2_ := zqj (below_step (zrd1 HB.out GE180.out) hb); have n3_ := zqj (hbox); have n4_ := zqj ((by rw [hg]; exact (below_size (zrd1 HB.out GE180.out)) : w.heap.size ≤ gb182)); have n5_ := zqj ((by rw [hg]; exact (below_size (zrd1 HB.out GE180.out)) : w.heap.size ≤ gb182)); have n6_ := zqj ((by rw [hg]; exact Nat.ne_of_lt (blk_lt (g := gb180) (o := .cells #[.slice (some ad181) l0_0.length c0_0, .slice A0_1 l0_1.length c0_1, .int .i64 a0_2] 25 (0, 0)) (zrb BK180.out)) : gb180 ≠ gb182)); have n7_ := zqj ((by rw [hg]; exact Nat.ne_of_gt (blk_lt (g := gb180) (o := .cells #[.slice (some ad181) l0_0.length c0_0, .slice A0_1 l0_1.length c0_1, .int .i64 a0_2] 25 (0, 0)) (zrb BK180.out)) : gb182 ≠ gb180)); clear HO_5; clear BK180; clear HB; have HO_5 := n0_; have BK180 := n1_; have HB := n2_; have BK182 := n3_; have GW182 := n4_; have GE182 := n5_; have NB180_182 := n6_; have NB182_180 := n7_; clear n0_ n1_ n2_ n3_ n4_ n5_ n6_ n7_; clear hb hbox hg; have hnb18 := NB182_180.out; have hnc18 := NB180_182.out; obtain ⟨hcz19_0, hcz19_1⟩ := zc2 BK182.out; obtain ⟨hfz19_0, hfz19_1⟩ := zf2 BK182.out; have p183 : 0 ≤ ((ji8) : Int) := zqh zrs; have q183 : (ji8) < (((rd_T55 l0_0 x11_1).f1).length : Int) := zqh zrs; obtain ⟨ad183, A183_6, c183_6, e183, hx183_0, hx183_1, hx183_2, hx183_3, hx183_4, hx183_5, hx183_6, hl183_6, hi183_6⟩ := at_T58 HR181_1.out (ji8) p183 q183; cases e183; have hn183_0 : ad183.block ≠ gb182 := Nat.ne_of_lt (Nat.lt_of_lt_of_le (by have := World.block_lt_of_cell? _ _ hx183_0; first | rwa [add_block] at this | exact this) GW182.out); have hn183_1 : ad183.block ≠ gb182 := Nat.ne_of_lt (Nat.lt_of_lt_of_le (by have := World.block_lt_of_cell? _ _ hx183_0; first | rwa [add_block] at this | exact this) GW182.out); replace hx183_0 := zx HB.out hx183_0; replace hx183_1 := zx HB.out hx183_1; replace hx183_2 := zx HB.out hx183_2; replace hx183_3 := zx HB.out hx183_3; replace hx183_4 := zx HB.out hx183_4; replace hx183_5 := zx HB.out hx183_5; replace hx183_6 := zx HB.out hx183_6; have HR183_6 := zqj hi183_6; have HC183_6 := zqj hl183_6; clear hi183_6 hl183_6; replace hx183_0 := (cell_far (p := ⟨gb182, 0, none⟩) (zrn hn183_0) (.int .i64 ((rd_T55 l0_0 x11_1).f0))).trans hx183_0; replace hx183_1 := (cell_far (p := ⟨gb182, 0, none⟩) (zrn hn183_0) (.int .i64 ((rd_T55 l0_0 x11_1).f0))).trans hx183_1; replace hx183_2 := (cell_far (p := ⟨gb182, 0, none⟩) (zrn hn183_0) (.int .i64 ((rd_T55 l0_0 x11_1).f0))).trans hx183_2; replace hx183_3 := (cell_far (p := ⟨gb182, 0, none⟩) (zrn hn183_0) (.int .i64 ((rd_T55 l0_0 x11_1).f0))).trans hx183_3; replace hx183_4 := (cell_far (p := ⟨gb182, 0, none⟩) (zrn hn183_0) (.int .i64 ((rd_T55 l0_0 x11_1).f0))).trans hx183_4; replace hx183_5 := (cell_far (p := ⟨gb182, 0, none⟩) (zrn hn183_0) (.int .i64 ((rd_T55 l0_0 x11_1).f0))).trans hx183_5; replace hx183_6 := (cell_far (p := ⟨gb182, 0, none⟩) (zrn hn183_0) (.int .i64 ((rd_T55 l0_0 x11_1).f0))).trans hx183_6; replace hx183_0 := (cell_far (p := ⟨gb182, 1, none⟩) (zrn hn183_1) (.slice (some ad183) ((rd_T55 l0_0 x11_1).f1).length c181_1)).trans hx183_0; replace hx183_1 := (cell_far (p := ⟨gb182, 1, none⟩) (zrn hn183_1) (.slice (some ad183) ((rd_T55 l0_0 x11_1).f1).length c181_1)).trans hx183_1; replace hx183_2 := (cell_far (p := ⟨gb182, 1, none⟩) (zrn hn183_1) (.slice (some ad183) ((rd_T55 l0_0 x11_1).f1).length c181_1)).trans hx183_2; replace hx183_3 := (cell_far (p := ⟨gb182, 1, none⟩) (zrn hn183_1) (.slice (some ad183) ((rd_T55 l0_0 x11_1).f1).length c181_1)).trans hx183_3; replace hx183_4 := (cell_far (p := ⟨gb182, 1, none⟩) (zrn hn183_1) (.slice (some ad183) ((rd_T55 l0_0 x11_1).f1).length c181_1)).trans hx183_4; replace hx183_5 := (cell_far (p := ⟨gb182, 1, none⟩) (zrn hn183_1) (.slice (some ad183) ((rd_T55 l0_0 x11_1).f1).length c181_1)).trans hx183_5; replace hx183_6 := (cell_far (p := ⟨gb182, 1, none⟩) (zrn hn183_1) (.slice (some ad183) ((rd_T55 l0_0 x11_1).f1).length c181_1)).trans hx183_6; clear hn183_0; clear hn183_1; replace p183 := eq_true p183; replace q183 := eq_true q183))
         go_roundg k1
         case measure => have := HK1.out; omega
         case rel => exact ⟨(x5_1), (wrap64 (x11_1 + 1)), zrt, H', ⟨by have := HK1.out; omega⟩, ⟨by (with_reducible repeat (first | apply Kd.R_alloc | apply Kd.R_drewN | apply Kd.R_drew)); exact Kd.R_mono (Kd.R_far (p := ⟨gb182, 1, none⟩) (Kd.R_far (p := ⟨gb182, 0, none⟩) (Kd.R_types HO_5.out BK182.out (by decide)) (fun _ hk => hk.2) (.int .i64 ((rd_T55 l0_0 x11_1).f0))) (fun _ hk => hk.2) (.slice (some ad183) ((rd_T55 l0_0 x11_1).f1).length c181_1)) (fun _ hk => trivial)⟩, ⟨by (iterate 2 ((with_reducible repeat (first | refine zqa ?_ _ | refine zqb ?_ | refine zqc ?_ _)); refine blk_far ?_ NB180_182.out _)); (with_reducible repeat (first | refine zqa ?_ _ | refine zqb ?_ | refine zqc ?_ _)); exact BK180.out⟩, ⟨by repeat (first | (with_reducible first | exact HB.out | apply zqg | apply zqe | apply zqf | refine zqd ?_ GE180.out | refine zqd ?_ GE182.out) | exact HB.out)⟩⟩
       ·rw [if_neg c10] at H
        exact absurd H (by simp)
      ·rw [if_neg c9] at H
       exact absurd H (by simp)
     ·rw [if_neg c7] at H
      exact absurd H (by simp)
    ·rw [if_neg c6] at H
     exact absurd H (by simp)
   ·rw [if_neg c5] at H
    have c5b0 : decide (x11_1 < (l0_0.length : Int)) = false := decide_eq_false c5
    clear c5
    by_cases c20 : (x5_1.length : Int) > 0
    ·rw [if_pos c20] at H
     have c20b0 : decide (0 < (x5_1.length : Int)) = true := decide_eq_true c20
     have c20b1 : decide (0 < x5_1.length) = true := decide_eq_true (by omega)
     clear c20
     obtain ⟨y187, hy187⟩ : ∃ y_ : List Int, y_ = (([0] : List Int)) := ⟨_, rfl⟩
     replace H : (if y187.length + x5_1.length < 17592186044416 then (some (y187 ++ x5_1)) else (none)) = some r := by first | (rw [hy187]; with_reducible exact H) | (have H2_ := (Option.bind_some _ _).symm.trans H; rw [hy187]; with_reducible exact H2_) | (have H2_ := (Option.bind_some _ _).symm.trans H; with_reducible exact H2_) | with_reducible exact H | (rw [hy187]; exact H) | exact H
     have Ny187 := zqj hy187
     clear hy187
     by_cases c21 : y187.length + x5_1.length < 17592186044416
     ·rw [if_pos c21] at H
      have LMc21 := zqj c21
      clear c21
      obtain ⟨y190, hy190⟩ : ∃ y_ : List Int, y_ = (y187 ++ x5_1) := ⟨_, rfl⟩
      replace H : (some y190) = some r := by first | (rw [hy190]; with_reducible exact H) | (have H2_ := (Option.bind_some _ _).symm.trans H; rw [hy190]; with_reducible exact H2_) | (have H2_ := (Option.bind_some _ _).symm.trans H; with_reducible exact H2_) | with_reducible exact H | (rw [hy190]; exact H) | exact H
      have Ny190 := zqj hy190
      clear hy190
      obtain rfl := Option.some.inj H
      obtain ⟨Ao22, co22, eo22⟩ := Kd.R_slice HO_5.out
      subst eo22
      go_wp2_with (first | ((with_reducible refine gate_dst (N := 48) rfl ?_); (try (refine gate_guard (by rfl) ?_; dsimp only)); refine Kd.R_lit (Kd.int .i64) _ 3 ?hg (N := 48) ?hd (xs := ([0] : List Int)) (inner := [.int .i64 0]) (ok := fun _ => True) (okp := fun _ => True) ?hr ?hp (fun _ hk => hk) trivial (Below.refl _ _) (Nat.le_refl _) (by simp) ?_; (case hd => rfl); (case hg => rfl); (case hr => exact zrr); (case hp => exact (Reps.one (show Kd.M (Kd.int .i64) _ _ _ 0 [.int .i64 0] from rfl) (Reps.none _ _))); intro v188 w23 ho24 hb hg_ hnew_; clear hg_ hnew_; (first | rw [← Ny187.out] at ho24 | (simp only [Int.reduceToNat] at ho24; rw [← Ny187.out] at ho24)); have n0_ := zqj (Kd.R_elder' (zrR HO_5.out) (Kd.R_base ho24) hb); have n1_ := zqj (Kd.R_lower (Kd.R_new' ho24 (Kd.R_lt (zrR HO_5.out))) (below_size (zrd1 HB.out GE180.out))); have n2_ := zqj (blk_below (g := gb180) (o := .cells #[.slice A0_0 l0_0.length c0_0, .slice A0_1 l0_1.length c0_1, .int .i64 a0_2] 25 (0, 0)) (zrb BK180.out) hb); have n3_ := zqj (below_step (zrd1 HB.out GE180.out) hb); clear HO_5; clear BK180; clear HB; have HO_5 := n0_; have HO189 := n1_; have BK180 := n2_; have HB := n3_; clear n0_ n1_ n2_ n3_; clear hb ho24) | ((with_reducible refine gate_builtin (b := .append) (xs := #[.tmp 48, .tmp 49]) rfl ?_); (try (refine gate_guard (by rfl) ?_; dsimp only)); at_builtin; refine Kd.R_append_rows (Kd.int .i64) (w0 := w) w.heap.size rfl (.tmp 48) (.tmp 49) 28 3 (.int .i64 0) 8 rfl Try.underlying28 info3 rfl (by decide) (by omega) v188 y187 x5_1 _ _ _ (fun k_ => some k_ ≠ (.slice Ao22 x5_1.length co22 : Value).ownBlock) (fun _ => False) rfl rfl ?aO ?aR (fun _ _ h => h) (fun _ h => h.elim) ?aF ?aB ?aS ?aL ?_; (case aR => repeat (first | exact (Kd.R_reads' HO_5.out).2.2 | (with_reducible refine Kd.C_alloc ?_ _) | (with_reducible refine Kd.C_drewN ?_ _) | (with_reducible refine Kd.C_drew ?_))); (case aB => exact (zrd1 HB.out GE180.out)); (case aF => exact (fun k_ hk => Kd.fresh' (Kd.R_lt (zrR HO_5.out)) k_ hk)); (case aO => exact (by (with_reducible repeat (first | apply Kd.R_alloc | apply Kd.R_drewN | apply Kd.R_drew)); exact Kd.R_mono HO189.out (fun _ hk => hk.2))); (case aS => exact (below_size (zrd1 HB.out GE180.out))); (case aL => have := LMc21.out; omega); intro v191 w25 ho hb hg hat; rw [← Ny190.out] at ho; have n0_ := zqj (Kd.R_after (ok := (fun _ => True)) (zrR HO_5.out) hg hat); have n1_ := zqj (blk_grown (g := gb180) (o := .cells #[.slice A0_0 l0_0.length c0_0, .slice A0_1 l0_1.length c0_1, .int .i64 a0_2] 25 (0, 0)) (zrb BK180.out) hg (Kd.R_ne HO189.out BK180.out (by decide))); have n2_ := zqj (hb); have n3_ := zqj (ho); clear HO_5; clear BK180; clear HB; clear HO189; have HO_5 := n0_; have BK180 := n1_; have HB := n2_; have HO192 := n3_; clear n0_ n1_ n2_ n3_; clear ho hb hg hat))
      go_ret
      exact ⟨_, zru, by (with_reducible repeat (first | apply Kd.R_alloc | apply Kd.R_drewN | apply Kd.R_drew)); exact Kd.R_mono HO192.out (fun _ hk => trivial), by repeat (first | (with_reducible first | exact HB.out | apply zqg | apply zqe | apply zqf | refine zqd ?_ GE180.out) | exact HB.out)⟩
     ·rw [if_neg c21] at H
      exact absurd H (by simp)
    ·rw [if_neg c20] at H
     have c20b0 : decide (0 < (x5_1.length : Int)) = false := decide_eq_false c20
     have c20b1 : decide (0 < x5_1.length) = false := decide_eq_false (by omega)
     clear c20
     obtain ⟨ji26, hji26⟩ : ∃ j_ : Int, (wrap64 ((l0_1.length : Int) - 1)) = j_ := ⟨_, rfl⟩
     replace H : (if 0 ≤ (ji26) then (if (ji26) < (l0_1.length : Int) then (if ((rd_T61 l0_1 (ji26)).f0) > a1 then ((some (([0] : List Int) : List Int)).bind fun y194 => (if y194.length + x5_1.length < 17592186044416 then (some (y194 ++ x5_1)) else (none))) else (some ([] : List Int))) else (none)) else (none)) = some r := by first | (rw [hji26] at H; exact H) | (simp only [hji26] at H ⊢; exact H)
     have hji26w : (IntKind.i64.wrap ((l0_1.length : Int) - 1)) = ji26 := (i64_w _).trans hji26
     by_cases c27 : 0 ≤ (ji26)
     ·rw [if_pos c27] at H
      have c27b0 : decide (0 ≤ (ji26)) = true := decide_eq_true c27
      clear c27
      by_cases c28 : (ji26) < (l0_1.length : Int)
      ·rw [if_pos c28] at H
       have c28b0 : decide ((ji26) < (l0_1.length : Int)) = true := decide_eq_true c28
       clear c28
       by_cases c29 : ((rd_T61 l0_1 (ji26)).f0) > a1
       ·rw [if_pos c29] at H
        have c29b0 : decide (a1 < ((rd_T61 l0_1 (ji26)).f0)) = true := decide_eq_true c29
        clear c29
        obtain ⟨y194, hy194⟩ : ∃ y_ : List Int, y_ = (([0] : List Int)) := ⟨_, rfl⟩
        replace H : (if y194.length + x5_1.length < 17592186044416 then (some (y194 ++ x5_1)) else (none)) = some r := by first | (rw [hy194]; with_reducible exact H) | (have H2_ := (Option.bind_some _ _).symm.trans H; rw [hy194]; with_reducible exact H2_) | (have H2_ := (Option.bind_some _ _).symm.trans H; with_reducible exact H2_) | with_reducible exact H | (rw [hy194]; exact H) | exact H
        have Ny194 := zqj hy194
        clear hy194
        by_cases c30 : y194.length + x5_1.length < 17592186044416
        ·rw [if_pos c30] at H
         have LMc30 := zqj c30
         clear c30
         obtain ⟨y197, hy197⟩ : ∃ y_ : List Int, y_ = (y194 ++ x5_1) := ⟨_, rfl⟩
         replace H : (some y197) = some r := by first | (rw [hy197]; with_reducible exact H) | (have H2_ := (Option.bind_some _ _).symm.trans H; rw [hy197]; with_reducible exact H2_) | (have H2_ := (Option.bind_some _ _).symm.trans H; with_reducible exact H2_) | with_reducible exact H | (rw [hy197]; exact H) | exact H
         have Ny197 := zqj hy197
         clear hy197
         obtain rfl := Option.some.inj H
         obtain ⟨Ao31, co31, eo31⟩ := Kd.R_slice HO_5.out
         subst eo31
         obtain ⟨hcz32_0, hcz32_1, hcz32_2⟩ := zc3 BK180.out
         (obtain ⟨hfz32_0, hfz32_1, hfz32_2⟩ := zf3 BK180.out)
         have p193 : 0 ≤ ((ji26) : Int) := zqh zrs
         have q193 : (ji26) < (l0_1.length : Int) := zqh zrs
         obtain ⟨ad193, e193, hx193_0, hx193_1⟩ := at_T61 HR0_1.out (ji26) p193 q193
         cases e193
         replace hx193_0 := zx HB.out hx193_0
         replace hx193_1 := zx HB.out hx193_1
         replace p193 := eq_true p193
         replace q193 := eq_true q193
         go_wp2_with (first | ((with_reducible refine gate_dst (N := 48) rfl ?_); (try (refine gate_guard (by rfl) ?_; dsimp only)); refine Kd.R_lit (Kd.int .i64) _ 3 ?hg (N := 48) ?hd (xs := ([0] : List Int)) (inner := [.int .i64 0]) (ok := fun _ => True) (okp := fun _ => True) ?hr ?hp (fun _ hk => hk) trivial (Below.refl _ _) (Nat.le_refl _) (by simp) ?_; (case hd => rfl); (case hg => rfl); (case hr => exact zrr); (case hp => exact (Reps.one (show Kd.M (Kd.int .i64) _ _ _ 0 [.int .i64 0] from rfl) (Reps.none _ _))); intro v195 w33 ho34 hb hg_ hnew_; clear hg_ hnew_; (first | rw [← Ny194.out] at ho34 | (simp only [Int.reduceToNat] at ho34; rw [← Ny194.out] at ho34)); have n0_ := zqj (Kd.R_elder' (zrR HO_5.out) (Kd.R_base ho34) hb); have n1_ := zqj (Kd.R_lower (Kd.R_new' ho34 (Kd.R_lt (zrR HO_5.out))) (below_size (zrd1 HB.out GE180.out))); have n2_ := zqj (blk_below (g := gb180) (o := .cells #[.slice A0_0 l0_0.length c0_0, .slice (some ad193) l0_1.length c0_1, .int .i64 a0_2] 25 (0, 0)) (zrb BK180.out) hb); have n3_ := zqj (below_step (zrd1 HB.out GE180.out) hb); clear HO_5; clear BK180; clear HB; have HO_5 := n0_; have HO196 := n1_; have BK180 := n2_; have HB := n3_; clear n0_ n1_ n2_ n3_; clear hb ho34) | ((with_reducible refine gate_builtin (b := .append) (xs := #[.tmp 48, .tmp 49]) rfl ?_); (try (refine gate_guard (by rfl) ?_; dsimp only)); at_builtin; refine Kd.R_append_rows (Kd.int .i64) (w0 := w) w.heap.size rfl (.tmp 48) (.tmp 49) 28 3 (.int .i64 0) 8 rfl Try.underlying28 info3 rfl (by decide) (by omega) v195 y194 x5_1 _ _ _ (fun k_ => some k_ ≠ (.slice Ao31 x5_1.length co31 : Value).ownBlock) (fun _ => False) rfl rfl ?aO ?aR (fun _ _ h => h) (fun _ h => h.elim) ?aF ?aB ?aS ?aL ?_; (case aR => repeat (first | exact (Kd.R_reads' HO_5.out).2.2 | (with_reducible refine Kd.C_alloc ?_ _) | (with_reducible refine Kd.C_drewN ?_ _) | (with_reducible refine Kd.C_drew ?_))); (case aB => exact (zrd1 HB.out GE180.out)); (case aF => exact (fun k_ hk => Kd.fresh' (Kd.R_lt (zrR HO_5.out)) k_ hk)); (case aO => exact (by (with_reducible repeat (first | apply Kd.R_alloc | apply Kd.R_drewN | apply Kd.R_drew)); exact Kd.R_mono HO196.out (fun _ hk => hk.2))); (case aS => exact (below_size (zrd1 HB.out GE180.out))); (case aL => have := LMc30.out; omega); intro v198 w35 ho hb hg hat; rw [← Ny197.out] at ho; have n0_ := zqj (Kd.R_after (ok := (fun _ => True)) (zrR HO_5.out) hg hat); have n1_ := zqj (blk_grown (g := gb180) (o := .cells #[.slice A0_0 l0_0.length c0_0, .slice (some ad193) l0_1.length c0_1, .int .i64 a0_2] 25 (0, 0)) (zrb BK180.out) hg (Kd.R_ne HO196.out BK180.out (by decide))); have n2_ := zqj (hb); have n3_ := zqj (ho); clear HO_5; clear BK180; clear HB; clear HO196; have HO_5 := n0_; have BK180 := n1_; have HB := n2_; have HO199 := n3_; clear n0_ n1_ n2_ n3_; clear ho hb hg hat))
         go_ret
         exact ⟨_, by first | rfl | (simp [errW_none, errW_some] <;> rfl) | (simp only [← hji26]; first | rfl | (simp [errW_none, errW_some] <;> rfl)) | (simp [*, errW_none, errW_some] <;> rfl), by (with_reducible repeat (first | apply Kd.R_alloc | apply Kd.R_drewN | apply Kd.R_drew)); exact Kd.R_mono HO199.out (fun _ hk => trivial), by repeat (first | (with_reducible first | exact HB.out | apply zqg | apply zqe | apply zqf | refine zqd ?_ GE180.out) | exact HB.out)⟩
        ·rw [if_neg c30] at H
         exact absurd H (by simp)
       ·rw [if_neg c29] at H
        have c29b0 : decide (a1 < ((rd_T61 l0_1 (ji26)).f0)) = false := decide_eq_false c29
        clear c29
        obtain rfl := Option.some.inj H
        obtain ⟨Ao36, co36, eo36⟩ := Kd.R_slice HO_5.out
        subst eo36
        obtain ⟨hcz37_0, hcz37_1, hcz37_2⟩ := zc3 BK180.out
        (obtain ⟨hfz37_0, hfz37_1, hfz37_2⟩ := zf3 BK180.out)
        have p193 : 0 ≤ ((ji26) : Int) := zqh zrs
        have q193 : (ji26) < (l0_1.length : Int) := zqh zrs
        obtain ⟨ad193, e193, hx193_0, hx193_1⟩ := at_T61 HR0_1.out (ji26) p193 q193
        cases e193
        replace hx193_0 := zx HB.out hx193_0
        replace hx193_1 := zx HB.out hx193_1
        replace p193 := eq_true p193
        replace q193 := eq_true q193
        go_wp2
        go_ret
        exact ⟨_, by first | rfl | (simp [errW_none, errW_some] <;> rfl) | (simp only [← hji26]; first | rfl | (simp [errW_none, errW_some] <;> rfl)) | (simp [*, errW_none, errW_some] <;> rfl), by first | exact Kd.R_nil _ _ _ _ _ | exact Kd.N_nil _ _ _ _ _ | exact Kd.V_nil _ _ _ _ _ | exact Kd.Q_nil _ _ _ _ _ | exact Kd.S_nil _ _ _ _ _, by repeat (first | (with_reducible first | exact HB.out | apply zqg | apply zqe | apply zqf | refine zqd ?_ GE180.out) | exact HB.out)⟩
      ·rw [if_neg c28] at H
       exact absurd H (by simp)
     ·rw [if_neg c27] at H
      exact absurd H (by simp)
mutual
def copyholdref08_Same.j0 : Nat → Bool → List (S38) → Int → List (S38) → Int → Option (Bool)
 | 0, _, _, _, _, _ => none
 | k + 1, x20, x201000, x201001, x202000, x202001 => if x20 = true then (some false) else (copyholdref08_Same.l0 k 0 x201000 x201001 x202000 x202001)
def copyholdref08_Same.l0 : Nat → Int → List (S38) → Int → List (S38) → Int → Option (Bool)
 | 0, _, _, _, _, _ => none
 | k + 1, x5, x201000, x201001, x202000, x202001 => if x5 < (x201000.length : Int) then (if 0 ≤ x5 then (if x5 < (x202000.length : Int) then ((copyholdref07_Same.f k ((rd_T38 x201000 x5).f0) ((rd_T38 x201000 x5).f1) ((rd_T38 x201000 x5).f2) ((rd_T38 x201000 x5).f3) ((rd_T38 x201000 x5).f4) ((rd_T38 x202000 x5).f0) ((rd_T38 x202000 x5).f1) ((rd_T38 x202000 x5).f2) ((rd_T38 x202000 x5).f3) ((rd_T38 x202000 x5).f4)).bind fun t204 => (if t204 = true then (copyholdref08_Same.l0 k (wrap64 (x5 + 1)) x201000 x201001 x202000 x202001) else (some false))) else (none)) else (none)) else (some true)
end
def copyholdref08_Same.f (k : Nat) (l0_0 : List (S38)) (a0_1 : Int) (l1_0 : List (S38)) (a1_1 : Int) : Option (Bool) := if a0_1 = a1_1 then (copyholdref08_Same.j0 k ((l0_0.length : Int) != (l1_0.length : Int)) l0_0 a0_1 l1_0 a1_1) else (copyholdref08_Same.j0 k true l0_0 a0_1 l1_0 a1_1)
theorem copyholdref08_Same.mono_l : ∀ k, (∀ y0 y1 y2 y3 y4, LeO (copyholdref08_Same.j0 k y0 y1 y2 y3 y4) (copyholdref08_Same.j0 (k + 1) y0 y1 y2 y3 y4)) ∧ (∀ y0 y1 y2 y3 y4, LeO (copyholdref08_Same.l0 k y0 y1 y2 y3 y4) (copyholdref08_Same.l0 (k + 1) y0 y1 y2 y3 y4))
 | 0 => ⟨fun _ _ _ _ _ r h => by simp [copyholdref08_Same.j0] at h, fun _ _ _ _ _ r h => by simp [copyholdref08_Same.l0] at h⟩
 | k + 1 => by
  obtain ⟨ih0, ih1⟩ := copyholdref08_Same.mono_l k
  refine ⟨?_, ?_⟩
  ·intro y0 y1 y2 y3 y4
   unfold copyholdref08_Same.j0
   repeat' first
   | (with_reducible exact ih0 _ _ _ _ _)
   | (with_reducible exact ih1 _ _ _ _ _)
   | (with_reducible exact copyholdref07_Same.mono _ _ _ _ _ _ _ _ _ _ _)
   | (with_reducible exact LeO.refl _)
   | (with_reducible exact LeO.none _)
   | (with_reducible refine LeO.ite ?_ ?_)
   | (with_reducible refine LeO.bind ?_ (fun _ => ?_))
   | exact ih0 _ _ _ _ _
   | exact ih1 _ _ _ _ _
   | exact copyholdref07_Same.mono _ _ _ _ _ _ _ _ _ _ _
   | exact LeO.none _
   | refine LeO.ite ?_ ?_
   | refine LeO.bind ?_ (fun _ => ?_)
  ·intro y0 y1 y2 y3 y4
   unfold copyholdref08_Same.l0
   repeat' first
   | (with_reducible exact ih0 _ _ _ _ _)
   | (with_reducible exact ih1 _ _ _ _ _)
   | (with_reducible exact copyholdref07_Same.mono _ _ _ _ _ _ _ _ _ _ _)
   | (with_reducible exact LeO.refl _)
   | (with_reducible exact LeO.none _)
   | (with_reducible refine LeO.ite ?_ ?_)
   | (with_reducible refine LeO.bind ?_ (fun _ => ?_))
   | exact ih0 _ _ _ _ _
   | exact ih1 _ _ _ _ _
   | exact copyholdref07_Same.mono _ _ _ _ _ _ _ _ _ _ _
   | exact LeO.none _
   | refine LeO.ite ?_ ?_
   | refine LeO.bind ?_ (fun _ => ?_)
theorem copyholdref08_Same.mono : ∀ a0 a1 a2 a3 k, LeO (copyholdref08_Same.f k a0 a1 a2 a3) (copyholdref08_Same.f (k + 1) a0 a1 a2 a3) := by
 intro a0 a1 a2 a3 k
 obtain ⟨ih0, ih1⟩ := copyholdref08_Same.mono_l k
 unfold copyholdref08_Same.f
 repeat' first
   | (with_reducible exact ih0 _ _ _ _ _)
   | (with_reducible exact ih1 _ _ _ _ _)
   | (with_reducible exact copyholdref07_Same.mono _ _ _ _ _ _ _ _ _ _ _)
   | (with_reducible exact LeO.refl _)
   | (with_reducible exact LeO.none _)
   | (with_reducible refine LeO.ite ?_ ?_)
   | (with_reducible refine LeO.bind ?_ (fun _ => ?_))
   | exact ih0 _ _ _ _ _
   | exact ih1 _ _ _ _ _
   | exact copyholdref07_Same.mono _ _ _ _ _ _ _ _ _ _ _
   | exact LeO.none _
   | refine LeO.ite ?_ ?_
   | refine LeO.bind ?_ (fun _ => ?_)
def copyholdref08_Same.T6 : Bool × List (List Nat × List Nat) := (true, [([], []), ([0], [0]), ([], []), ([1, 2], [1, 2]), ([3], [3]), ([], []), ([5], [5]), ([], []), ([6, 7], [6, 7]), ([8], [8]), ([4, 9], [4, 9]), ([10, 10, 0, 1, 2, 3, 4, 5, 6, 7, 8, 9, 10], [10])])
def copyholdref08_Same.B6 : List Nat := [0, 1, 0, 7, 15, 0, 32, 0, 224, 480, 1023, 2047]
theorem copyholdref08_Same.tab6 : rtab .any (opsOf Try.f15 6) = copyholdref08_Same.T6 := by kernel_rfl
theorem copyholdref08_Same.bits6 : waitsOk copyholdref08_Same.T6.2 copyholdref08_Same.B6 = true := by kernel_rfl
set_option maxHeartbeats 8000000 in
set_option maxRecDepth 100000 in
theorem copyholdref08_Same.calls (k : Nat) (A0_0 : Option Addr) (c0_0 : Nat) (l0_0 : List (S38)) (a0_1 : Int) (A1_0 : Option Addr) (c1_0 : Nat) (l1_0 : List (S38)) (a1_1 : Int) (r : Bool) (w : World) (hr0_0 : Kd.C k38 w A0_0 l0_0.length l0_0) (hc0_0 : l0_0.length ≤ c0_0) (hr1_0 : Kd.C k38 w A1_0 l1_0.length l1_0) (hc1_0 : l1_0.length ≤ c1_0) (h : copyholdref08_Same.f k l0_0 a0_1 l1_0 a1_1 = some r) :
  Calls Try.prog 15 #[.agg #[.slice A0_0 l0_0.length c0_0, .int .i64 a0_1], .agg #[.slice A1_0 l1_0.length c1_0, .int .i64 a1_1]] w fun e w' => e = .returned (.bool r) ∧ Below w.heap.size w w' := by
 have hu34 := Try.underlying34
 have hu38 := Try.underlying38
 have HR0_0 := zqj hr0_0
 have HC0_0 := zqj hc0_0
 clear hr0_0 hc0_0
 have HR1_0 := zqj hr1_0
 have HC1_0 := zqj hc1_0
 clear hr1_0 hc1_0
 have HB := zqj (Below.refl w.heap.size w)
 have H : (if a0_1 = a1_1 then (copyholdref08_Same.j0 k ((l0_0.length : Int) != (l1_0.length : Int)) l0_0 a0_1 l1_0 a1_1) else (copyholdref08_Same.j0 k true l0_0 a0_1 l1_0 a1_1)) = some r := h
 clear h
 have HC3 := zqj H
 clear H
 go_enter Try.func15, Try.ntmps15
 go_upto_region 1 with (first | ((with_reducible refine gate_dst (N := 2) rfl ?_); (try (refine gate_guard (by rfl) ?_; dsimp only)); refine box_event ?hg (N := 2) ?hd (cs := #[.slice A0_0 l0_0.length c0_0, .int .i64 a0_1]) (t := 34) ?hr ?_; (case hd => rfl); (case hg => rfl); (case hr => exact zrr); intro gb200 hg w4 hbox hb; have n0_ := zqj (below_step (zrd0 HB.out) hb); have n1_ := zqj (hbox); have n2_ : Aside0 (w.heap.size ≤ gb200) := ⟨by rw [hg]; exact below_size (zrd0 HB.out)⟩; have n3_ := n2_; clear HB; have HB := n0_; have BK200 := n1_; have GW200 := n2_; have GE200 := n3_; clear n0_ n1_ n2_ n3_; clear hb hbox hg) | ((with_reducible refine gate_dst (N := 3) rfl ?_); (try (refine gate_guard (by rfl) ?_; dsimp only)); refine box_event ?hg (N := 3) ?hd (cs := #[.slice A1_0 l1_0.length c1_0, .int .i64 a1_1]) (t := 34) ?hr ?_; (case hd => rfl); (case hg => rfl); (case hr => exact zrr); intro gb201 hg w5 hbox hb; have n0_ := zqj (blk_below (g := gb200) (o := .cells #[.slice A0_0 l0_0.length c0_0, .int .i64 a0_1] 34 (0, 0)) (zrb BK200.out) hb); have n1_ := zqj (below_step (zrd1 HB.out GE200.out) hb); have n2_ := zqj (hbox); have n3_ := zqj ((by rw [hg]; exact (below_size (zrd1 HB.out GE200.out)) : w.heap.size ≤ gb201)); have n4_ := zqj ((by rw [hg]; exact (below_size (zrd1 HB.out GE200.out)) : w.heap.size ≤ gb201)); have n5_ := zqj ((by rw [hg]; exact Nat.ne_of_lt (blk_lt (g := gb200) (o := .cells #[.slice A0_0 l0_0.length c0_0, .int .i64 a0_1] 34 (0, 0)) (zrb BK200.out)) : gb200 ≠ gb201)); have n6_ := zqj ((by rw [hg]; exact Nat.ne_of_gt (blk_lt (g := gb200) (o := .cells #[.slice A0_0 l0_0.length c0_0, .int .i64 a0_1] 34 (0, 0)) (zrb BK200.out)) : gb201 ≠ gb200)); clear BK200; clear HB; have BK200 := n0_; have HB := n1_; have BK201 := n2_; have GW201 := n3_; have GE201 := n4_; have NB200_201 := n5_; have NB201_200 := n6_; clear n0_ n1_ n2_ n3_ n4_ n5_ n6_; clear hb hbox hg))
 (try simp only [Act.put, zqk, zql, zqm])
 go_cut [20] (fun v20 wc => ∃ (kq : Nat) (x20_2 : Bool), v20 = .bool x20_2 ∧ Aside0 (copyholdref08_Same.j0 kq x20_2 l0_0 a0_1 l1_0 a1_1 = some r) ∧ Aside0 (kq ≤ k) ∧ Aside0 (wc.heap[gb200]? = some (.cells #[(.slice A0_0 l0_0.length c0_0), .int .i64 a0_1] 34 (0, 0))) ∧ Aside0 (wc.heap[gb201]? = some (.cells #[(.slice A1_0 l1_0.length c1_0), .int .i64 a1_1] 34 (0, 0))) ∧ Aside0 (Below w.heap.size w wc))
 case first =>
  (have H := HC3.out; clear HC3)
  by_cases c6 : a0_1 = a1_1
  ·rw [if_pos c6] at H
   have c6b0 : (a0_1 == a1_1) = true := beq_iff_eq.mpr c6
   have c6b1 : (a0_1 != a1_1) = false := bne_eq_false_iff_eq.mpr c6
   clear c6
   (first | rw [c6b0] | (simp only [i64_w, i32_w]; rw [c6b0]) | skip)
   have H' := zqj H
   clear H
   have hnb7 := NB200_201.out
   have hnc7 := NB201_200.out
   obtain ⟨hcz8_0, hcz8_1⟩ := zc2 BK200.out
   (obtain ⟨hfz8_0, hfz8_1⟩ := zf2 BK200.out)
   obtain ⟨hcz9_0, hcz9_1⟩ := zc2 BK201.out
   (obtain ⟨hfz9_0, hfz9_1⟩ := zf2 BK201.out)
   go_wp2
   go_meet
   case rel => exact ⟨_, (((l0_0.length : Int) != (l1_0.length : Int))), zrt, H', ⟨by first | omega | exact Nat.le_refl _⟩, ⟨by (with_reducible repeat (first | refine zqa ?_ _ | refine zqb ?_ | refine zqc ?_ _)); exact BK200.out⟩, ⟨by (with_reducible repeat (first | refine zqa ?_ _ | refine zqb ?_ | refine zqc ?_ _)); exact BK201.out⟩, ⟨by repeat (first | (with_reducible first | exact HB.out | apply zqg | apply zqe | apply zqf | refine zqd ?_ GE200.out | refine zqd ?_ GE201.out) | exact HB.out)⟩⟩
  ·rw [if_neg c6] at H
   have c6b0 : (a0_1 == a1_1) = false := beq_eq_false_iff_ne.mpr c6
   have c6b1 : (a0_1 != a1_1) = true := bne_iff_ne.mpr c6
   (first | rw [c6b0] | (simp only [i64_w, i32_w]; rw [c6b0]) | skip)
   have H' := zqj H
   clear H
   have hnb10 := NB200_201.out
   have hnc10 := NB201_200.out
   obtain ⟨hcz11_0, hcz11_1⟩ := zc2 BK200.out
   (obtain ⟨hfz11_0, hfz11_1⟩ := zf2 BK200.out)
   obtain ⟨hcz12_0, hcz12_1⟩ := zc2 BK201.out
   (obtain ⟨hfz12_0, hfz12_1⟩ := zf2 BK201.out)
   go_wp2
   go_meet
   case rel => exact ⟨_, (true), zrt, H', ⟨by first | omega | exact Nat.le_refl _⟩, ⟨by (with_reducible repeat (first | refine zqa ?_ _ | refine zqb ?_ | refine zqc ?_ _)); exact BK200.out⟩, ⟨by (with_reducible repeat (first | refine zqa ?_ _ | refine zqb ?_ | refine zqc ?_ _)); exact BK201.out⟩, ⟨by repeat (first | (with_reducible first | exact HB.out | apply zqg | apply zqe | apply zqf | refine zqd ?_ GE200.out | refine zqd ?_ GE201.out) | exact HB.out)⟩⟩
 case rest =>
  (clear HC3; (try clear c1); (try clear p2); (try clear c6); (try clear c6b0); (try clear c6b1); (try clear c7); (try clear c10); (try clear hcz11_0); (try clear hcz11_1); (try clear hcz12_0); (try clear hcz12_1); (try clear hcz8_0); (try clear hcz8_1); (try clear hcz9_0); (try clear hcz9_1); (try clear hfz11_0); (try clear hfz11_1); (try clear hfz12_0); (try clear hfz12_1); (try clear hfz8_0); (try clear hfz8_1); (try clear hfz9_0); (try clear hfz9_1))
  obtain ⟨kq, x20_2, rfl, HA, HJ2, BK200, BK201, HB⟩ := hcut
  cases kq with
  | zero => exact absurd HA.out (by simp [copyholdref08_Same.j0])
  | succ kj2 =>
   (have H := HA.out; clear HA)
   simp only [copyholdref08_Same.j0] at H
   by_cases c13 : x20_2 = true
   ·subst c13
    have H1 : (some false) = some r := by rw [if_pos rfl] at H; exact H
    clear H
    have H := H1
    clear H1
    obtain rfl := Option.some.inj H
    go_wp2
    go_ret
    exact ⟨zru, by repeat (first | (with_reducible first | exact HB.out | apply zqg | apply zqe | apply zqf | refine zqd ?_ GE200.out | refine zqd ?_ GE201.out) | exact HB.out)⟩
   ·replace c13 := Bool.eq_false_iff.mpr c13
    subst c13
    have H1 : (copyholdref08_Same.l0 kj2 0 l0_0 a0_1 l1_0 a1_1) = some r := by rw [if_neg (show ¬ (false = true) by decide)] at H; exact H
    clear H
    have H := H1
    clear H1
    have H' := zqj H
    clear H
    go_wp2
    go_loopg [5] kj2 (fun kq v5 w' => ∃ (x5_2 : Int), v5 = .int .i64 x5_2 ∧ Aside0 (copyholdref08_Same.l0 kq x5_2 l0_0 a0_1 l1_0 a1_1 = some r) ∧ Aside0 (kq ≤ kj2) ∧ Aside0 (w'.heap[gb200]? = some (.cells #[(.slice A0_0 l0_0.length c0_0), .int .i64 a0_1] 34 (0, 0))) ∧ Aside0 (w'.heap[gb201]? = some (.cells #[(.slice A1_0 l1_0.length c1_0), .int .i64 a1_1] 34 (0, 0))) ∧ Aside0 (Below w.heap.size w w'))
    case atStart => exact ⟨(0), zrt, H', ⟨Nat.le_refl _⟩, ⟨by (with_reducible repeat (first | refine zqa ?_ _ | refine zqb ?_ | refine zqc ?_ _)); exact BK200.out⟩, ⟨by (with_reducible repeat (first | refine zqa ?_ _ | refine zqb ?_ | refine zqc ?_ _)); exact BK201.out⟩, ⟨by repeat (first | (with_reducible first | exact HB.out | apply zqg | apply zqe | apply zqf | refine zqd ?_ GE200.out | refine zqd ?_ GE201.out) | exact HB.out)⟩⟩
    case round =>
     clear H'
     ((try clear c1); (try clear p2); (try clear c6); (try clear c6b0); (try clear c6b1); (try clear c7); (try clear c10); (try clear c13); (try clear hcz11_0); (try clear hcz11_1); (try clear hcz12_0); (try clear hcz12_1); (try clear hcz8_0); (try clear hcz8_1); (try clear hcz9_0); (try clear hcz9_1); (try clear hfz11_0); (try clear hfz11_1); (try clear hfz12_0); (try clear hfz12_1); (try clear hfz8_0); (try clear hfz8_1); (try clear hfz9_0); (try clear hfz9_1); (try clear p2))
     obtain ⟨x5_2, rfl, HA, HK2, BK200, BK201, HB⟩ := hrel
     cases gk with
     | zero => exact absurd HA.out (by simp [copyholdref08_Same.l0])
     | succ k2 =>
      (have H := HA.out; clear HA)
      simp only [copyholdref08_Same.l0] at H
      by_cases c14 : x5_2 < (l0_0.length : Int)
      ·rw [if_pos c14] at H
       have c14b0 : decide (x5_2 < (l0_0.length : Int)) = true := decide_eq_true c14
       clear c14
       by_cases c15 : 0 ≤ x5_2
       ·rw [if_pos c15] at H
        have c15b0 : decide (0 ≤ x5_2) = true := decide_eq_true c15
        clear c15
        by_cases c16 : x5_2 < (l1_0.length : Int)
        ·rw [if_pos c16] at H
         have c16b0 : decide (x5_2 < (l1_0.length : Int)) = true := decide_eq_true c16
         clear c16
         replace H := zqn H
         obtain ⟨t204, A170, H⟩ := H
         replace H : (if t204 = true then (copyholdref08_Same.l0 k2 (wrap64 (x5_2 + 1)) l0_0 a0_1 l1_0 a1_1) else (some false)) = some r := H
         have A17 := zqj A170
         clear A170
         by_cases c18 : t204 = true
         ·subst c18
          have H1 : (copyholdref08_Same.l0 k2 (wrap64 (x5_2 + 1)) l0_0 a0_1 l1_0 a1_1) = some r := by rw [if_pos rfl] at H; exact H
          clear H
          have H := H1
          clear H1
          have H' := zqj H
          clear H
          have hnb19 := NB200_201.out
          have hnc19 := NB201_200.out
          obtain ⟨hcz20_0, hcz20_1⟩ := zc2 BK200.out
          (obtain ⟨hfz20_0, hfz20_1⟩ := zf2 BK200.out)
          try go_wp2
          replace BK200 := zqj (zqb BK200.out); replace BK201 := zqj (zqb BK201.out); replace HB := zqj (zqf HB.out)
          have p202 : 0 ≤ (x5_2 : Int) := zqh zrs
          have q202 : x5_2 < (l0_0.length : Int) := zqh zrs
          obtain ⟨ad202, A202_4, c202_4, e202, hx202_0, hx202_1, hx202_2, hx202_3, hx202_4, hl202_4, hi202_4⟩ := at_T38 HR0_0.out x5_2 p202 q202
          have hw202_4 := hx202_4
          have hw202_3 := hx202_3
          have hw202_2 := hx202_2
          have hw202_1 := hx202_1
          have hw202_0 := hx202_0
          cases e202
          replace hx202_0 := zx HB.out hx202_0
          replace hx202_1 := zx HB.out hx202_1
          replace hx202_2 := zx HB.out hx202_2
          replace hx202_3 := zx HB.out hx202_3
          replace hx202_4 := zx HB.out hx202_4
          have HR202_4 := zqj hi202_4
          have HC202_4 := zqj hl202_4
          clear hi202_4 hl202_4
          replace p202 := eq_true p202
          replace q202 := eq_true q202
          have p203 : 0 ≤ (x5_2 : Int) := zqh zrs
          have q203 : x5_2 < (l1_0.length : Int) := zqh zrs
          obtain ⟨ad203, A203_4, c203_4, e203, hx203_0, hx203_1, hx203_2, hx203_3, hx203_4, hl203_4, hi203_4⟩ := at_T38 HR1_0.out x5_2 p203 q203
          have hw203_4 := hx203_4
          have hw203_3 := hx203_3
          have hw203_2 := hx203_2
          have hw203_1 := hx203_1
          have hw203_0 := hx203_0
          cases e203
          replace hx203_0 := zx HB.out hx203_0
          replace hx203_1 := zx HB.out hx203_1
          replace hx203_2 := zx HB.out hx203_2
          replace hx203_3 := zx HB.out hx203_3
          replace hx203_4 := zx HB.out hx203_4
          have HR203_4 := zqj hi203_4
          have HC203_4 := zqj hl203_4
          clear hi203_4 hl203_4
          replace p203 := eq_true p203
          replace q203 := eq_true q203
          refine start_ (n := 12) (S := fun w' => w'.cell? ⟨gb200, 0, none⟩ = some (.slice (some ad202) l0_0.length c0_0) ∧ w'.cell? ⟨gb200, 1, none⟩ = some (.int .i64 a0_1) ∧ w'.cell? ⟨gb201, 0, none⟩ = some (.slice (some ad203) l1_0.length c1_0) ∧ w'.cell? ⟨gb201, 1, none⟩ = some (.int .i64 a1_1) ∧ w'.cell? (ad202.add ((x5_2).toNat * 5)) = some (.int .i64 ((rd_T38 l0_0 x5_2).f0)) ∧ w'.cell? ⟨(ad202.add ((x5_2).toNat * 5)).block, (ad202.add ((x5_2).toNat * 5)).off + 1, none⟩ = some (.int .i64 ((rd_T38 l0_0 x5_2).f1)) ∧ w'.cell? ⟨(ad202.add ((x5_2).toNat * 5)).block, (ad202.add ((x5_2).toNat * 5)).off + 2, none⟩ = some (.int .i64 ((rd_T38 l0_0 x5_2).f2)) ∧ w'.cell? ⟨(ad202.add ((x5_2).toNat * 5)).block, (ad202.add ((x5_2).toNat * 5)).off + 3, none⟩ = some (.string ((rd_T38 l0_0 x5_2).f3)) ∧ w'.cell? ⟨(ad202.add ((x5_2).toNat * 5)).block, (ad202.add ((x5_2).toNat * 5)).off + 4, none⟩ = some (.slice A202_4 ((rd_T38 l0_0 x5_2).f4).length c202_4) ∧ w'.cell? (ad203.add ((x5_2).toNat * 5)) = some (.int .i64 ((rd_T38 l1_0 x5_2).f0)) ∧ w'.cell? ⟨(ad203.add ((x5_2).toNat * 5)).block, (ad203.add ((x5_2).toNat * 5)).off + 1, none⟩ = some (.int .i64 ((rd_T38 l1_0 x5_2).f1)) ∧ w'.cell? ⟨(ad203.add ((x5_2).toNat * 5)).block, (ad203.add ((x5_2).toNat * 5)).off + 2, none⟩ = some (.int .i64 ((rd_T38 l1_0 x5_2).f2)) ∧ w'.cell? ⟨(ad203.add ((x5_2).toNat * 5)).block, (ad203.add ((x5_2).toNat * 5)).off + 3, none⟩ = some (.string ((rd_T38 l1_0 x5_2).f3)) ∧ w'.cell? ⟨(ad203.add ((x5_2).toNat * 5)).block, (ad203.add ((x5_2).toNat * 5)).off + 4, none⟩ = some (.slice A203_4 ((rd_T38 l1_0 x5_2).f4).length c203_4)) (ds := []) #[false, false, false, false, false, false, false, false, false, false, false, false] (by kernel_rfl) rfl rfl ⟨(blk_cell BK200.out 0).trans rfl, (blk_cell BK200.out 1).trans rfl, (blk_cell BK201.out 0).trans rfl, (blk_cell BK201.out 1).trans rfl, ((HB.out.cell (World.block_lt_of_cell? w _ hw202_0)).trans hw202_0), ((HB.out.cell (World.block_lt_of_cell? w _ hw202_1)).trans hw202_1), ((HB.out.cell (World.block_lt_of_cell? w _ hw202_2)).trans hw202_2), ((HB.out.cell (World.block_lt_of_cell? w _ hw202_3)).trans hw202_3), ((HB.out.cell (World.block_lt_of_cell? w _ hw202_4)).trans hw202_4), ((HB.out.cell (World.block_lt_of_cell? w _ hw203_0)).trans hw203_0), ((HB.out.cell (World.block_lt_of_cell? w _ hw203_1)).trans hw203_1), ((HB.out.cell (World.block_lt_of_cell? w _ hw203_2)).trans hw203_2), ((HB.out.cell (World.block_lt_of_cell? w _ hw203_3)).trans hw203_3), ((HB.out.cell (World.block_lt_of_cell? w _ hw203_4)).trans hw203_4)⟩ (fun hHeld => ?_); refine with_tabW copyholdref08_Same.tab6 copyholdref08_Same.bits6 (fun HT_ HW_ => ?_)
          generalize wr.drew = w21 at BK200 BK201 HB HR202_4 HR203_4 hx202_0 hx202_1 hx202_2 hx202_3 hx202_4 hx203_0 hx203_1 hx203_2 hx203_3 hx203_4 hHeld ⊢
          refine zp 0 28 (zb 12 1) HT_.out ?_
          refine zp 2 30 (zb 12 5) HT_.out ?_
          refine zp 5 33 (zb 12 37) HT_.out ?_
          refine zp 7 35 (zb 12 165) HT_.out ?_
          refine zt 1 29 (zb 12 167) HT_.out HW_.out hHeld ?_
          refine zp 3 31 (zb 12 175) HT_.out ?_
          refine zt 4 32 (zb 12 191) HT_.out HW_.out hHeld ?_
          refine zt 6 34 (zb 12 255) HT_.out HW_.out hHeld ?_
          refine zp 8 36 (zb 12 511) HT_.out ?_
          refine zt 9 37 (zb 12 1023) HT_.out HW_.out hHeld ?_
          refine one_ (i := 10) (N := some 38) (zb 12 2047) rfl rfl (one_of HT_.out (by kernel_rfl)) (by decide) (fun K hK => ?_)
          refine goes_ Try.func30 (by kernel_rfl) rfl #[.agg #[.int .i64 ((rd_T38 l0_0 x5_2).f0), .int .i64 ((rd_T38 l0_0 x5_2).f1), .int .i64 ((rd_T38 l0_0 x5_2).f2), .string ((rd_T38 l0_0 x5_2).f3), .slice A202_4 ((rd_T38 l0_0 x5_2).f4).length c202_4], .agg #[.int .i64 ((rd_T38 l1_0 x5_2).f0), .int .i64 ((rd_T38 l1_0 x5_2).f1), .int .i64 ((rd_T38 l1_0 x5_2).f2), .string ((rd_T38 l1_0 x5_2).f3), .slice A203_4 ((rd_T38 l1_0 x5_2).f4).length c203_4]] (by rfl) rfl rfl zra ?_
          with_reducible refine (copyholdref07_Same.calls k2 ((rd_T38 l0_0 x5_2).f0) ((rd_T38 l0_0 x5_2).f1) ((rd_T38 l0_0 x5_2).f2) ((rd_T38 l0_0 x5_2).f3) _ _ ((rd_T38 l0_0 x5_2).f4) ((rd_T38 l1_0 x5_2).f0) ((rd_T38 l1_0 x5_2).f1) ((rd_T38 l1_0 x5_2).f2) ((rd_T38 l1_0 x5_2).f3) _ _ ((rd_T38 l1_0 x5_2).f4) true _ ?side1 ?side2 ?side3 ?side4 A17.out).mono ?_
          (case side1 => exact zrc (Kd.C_below HR202_4.out HB.out))
          (case side2 => exact HC202_4.out)
          (case side3 => exact zrc (Kd.C_below HR203_4.out HB.out))
          (case side4 => exact HC203_4.out)
          rintro e w22 ⟨rfl, hb⟩
          refine ⟨_, rfl, ?_⟩
          replace BK200 := zqj (blk_below (g := gb200) (o := .cells #[.slice (some ad202) l0_0.length c0_0, .int .i64 a0_1] 34 (0, 0)) (zrb BK200.out) hb); replace BK201 := zqj (blk_below (g := gb201) (o := .cells #[.slice (some ad203) l1_0.length c1_0, .int .i64 a1_1] 34 (0, 0)) (zrb BK201.out) hb); replace HB := zqj (below_step (zrd2 HB.out GE200.out GE201.out) hb)
          (try clear hb); (try clear hb2); (try clear hk); (try clear hi)
          refine hK.out _ _ ⟨(blk_cell BK200.out 0).trans rfl, (blk_cell BK200.out 1).trans rfl, (blk_cell BK201.out 0).trans rfl, (blk_cell BK201.out 1).trans rfl, ((HB.out.cell (World.block_lt_of_cell? w _ hw202_0)).trans hw202_0), ((HB.out.cell (World.block_lt_of_cell? w _ hw202_1)).trans hw202_1), ((HB.out.cell (World.block_lt_of_cell? w _ hw202_2)).trans hw202_2), ((HB.out.cell (World.block_lt_of_cell? w _ hw202_3)).trans hw202_3), ((HB.out.cell (World.block_lt_of_cell? w _ hw202_4)).trans hw202_4), ((HB.out.cell (World.block_lt_of_cell? w _ hw203_0)).trans hw203_0), ((HB.out.cell (World.block_lt_of_cell? w _ hw203_1)).trans hw203_1), ((HB.out.cell (World.block_lt_of_cell? w _ hw203_2)).trans hw203_2), ((HB.out.cell (World.block_lt_of_cell? w _ hw203_3)).trans hw203_3), ((HB.out.cell (World.block_lt_of_cell? w _ hw203_4)).trans hw203_4)⟩ (fun hHeld => ?_)
          clear hK K
          refine norm_ (a' := ?_) ?_ ?_
          rotate_left
          ·show Act.put _ (some 38) _ = _
           simp only [Act.put, zqk, zql, zqm, i64_w, i32_w]
           rfl
          refine zp 11 6 (zb 12 4095) HT_.out ?_
          refine done_ (done_of HT_.out (by kernel_rfl)) ?_
          try go_wp2
          go_roundg k2
          case measure => have := HJ2.out; have := HK2.out; omega
          case rel => exact ⟨(wrap64 (x5_2 + 1)), zrt, H', ⟨by have := HJ2.out; have := HK2.out; omega⟩, ⟨by (with_reducible repeat (first | refine zqa ?_ _ | refine zqb ?_ | refine zqc ?_ _)); exact BK200.out⟩, ⟨by (with_reducible repeat (first | refine zqa ?_ _ | refine zqb ?_ | refine zqc ?_ _)); exact BK201.out⟩, ⟨by repeat (first | (with_reducible first | exact HB.out | apply zqg | apply zqe | apply zqf | refine zqd ?_ GE200.out | refine zqd ?_ GE201.out) | exact HB.out)⟩⟩
         ·replace c18 := Bool.eq_false_iff.mpr c18
          subst c18
          have H1 : (some false) = some r := by rw [if_neg (show ¬ (false = true) by decide)] at H; exact H
          clear H
          have H := H1
          clear H1
          obtain rfl := Option.some.inj H
          have hnb23 := NB200_201.out
          have hnc23 := NB201_200.out
          obtain ⟨hcz24_0, hcz24_1⟩ := zc2 BK200.out
          (obtain ⟨hfz24_0, hfz24_1⟩ := zf2 BK200.out)
          try go_wp2
          replace BK200 := zqj (zqb BK200.out); replace BK201 := zqj (zqb BK201.out); replace HB := zqj (zqf HB.out)
          have p202 : 0 ≤ (x5_2 : Int) := zqh zrs
          have q202 : x5_2 < (l0_0.length : Int) := zqh zrs
          obtain ⟨ad202, A202_4, c202_4, e202, hx202_0, hx202_1, hx202_2, hx202_3, hx202_4, hl202_4, hi202_4⟩ := at_T38 HR0_0.out x5_2 p202 q202
          have hw202_4 := hx202_4
          have hw202_3 := hx202_3
          have hw202_2 := hx202_2
          have hw202_1 := hx202_1
          have hw202_0 := hx202_0
          cases e202
          replace hx202_0 := zx HB.out hx202_0
          replace hx202_1 := zx HB.out hx202_1
          replace hx202_2 := zx HB.out hx202_2
          replace hx202_3 := zx HB.out hx202_3
          replace hx202_4 := zx HB.out hx202_4
          have HR202_4 := zqj hi202_4
          have HC202_4 := zqj hl202_4
          clear hi202_4 hl202_4
          replace p202 := eq_true p202
          replace q202 := eq_true q202
          have p203 : 0 ≤ (x5_2 : Int) := zqh zrs
          have q203 : x5_2 < (l1_0.length : Int) := zqh zrs
          obtain ⟨ad203, A203_4, c203_4, e203, hx203_0, hx203_1, hx203_2, hx203_3, hx203_4, hl203_4, hi203_4⟩ := at_T38 HR1_0.out x5_2 p203 q203
          have hw203_4 := hx203_4
          have hw203_3 := hx203_3
          have hw203_2 := hx203_2
          have hw203_1 := hx203_1
          have hw203_0 := hx203_0
          cases e203
          replace hx203_0 := zx HB.out hx203_0
          replace hx203_1 := zx HB.out hx203_1
          replace hx203_2 := zx HB.out hx203_2
          replace hx203_3 := zx HB.out hx203_3
          replace hx203_4 := zx HB.out hx203_4
          have HR203_4 := zqj hi203_4
          have HC203_4 := zqj hl203_4
          clear hi203_4 hl203_4
          replace p203 := eq_true p203
          replace q203 := eq_true q203
          refine start_ (n := 12) (S := fun w' => w'.cell? ⟨gb200, 0, none⟩ = some (.slice (some ad202) l0_0.length c0_0) ∧ w'.cell? ⟨gb200, 1, none⟩ = some (.int .i64 a0_1) ∧ w'.cell? ⟨gb201, 0, none⟩ = some (.slice (some ad203) l1_0.length c1_0) ∧ w'.cell? ⟨gb201, 1, none⟩ = some (.int .i64 a1_1) ∧ w'.cell? (ad202.add ((x5_2).toNat * 5)) = some (.int .i64 ((rd_T38 l0_0 x5_2).f0)) ∧ w'.cell? ⟨(ad202.add ((x5_2).toNat * 5)).block, (ad202.add ((x5_2).toNat * 5)).off + 1, none⟩ = some (.int .i64 ((rd_T38 l0_0 x5_2).f1)) ∧ w'.cell? ⟨(ad202.add ((x5_2).toNat * 5)).block, (ad202.add ((x5_2).toNat * 5)).off + 2, none⟩ = some (.int .i64 ((rd_T38 l0_0 x5_2).f2)) ∧ w'.cell? ⟨(ad202.add ((x5_2).toNat * 5)).block, (ad202.add ((x5_2).toNat * 5)).off + 3, none⟩ = some (.string ((rd_T38 l0_0 x5_2).f3)) ∧ w'.cell? ⟨(ad202.add ((x5_2).toNat * 5)).block, (ad202.add ((x5_2).toNat * 5)).off + 4, none⟩ = some (.slice A202_4 ((rd_T38 l0_0 x5_2).f4).length c202_4) ∧ w'.cell? (ad203.add ((x5_2).toNat * 5)) = some (.int .i64 ((rd_T38 l1_0 x5_2).f0)) ∧ w'.cell? ⟨(ad203.add ((x5_2).toNat * 5)).block, (ad203.add ((x5_2).toNat * 5)).off + 1, none⟩ = some (.int .i64 ((rd_T38 l1_0 x5_2).f1)) ∧ w'.cell? ⟨(ad203.add ((x5_2).toNat * 5)).block, (ad203.add ((x5_2).toNat * 5)).off + 2, none⟩ = some (.int .i64 ((rd_T38 l1_0 x5_2).f2)) ∧ w'.cell? ⟨(ad203.add ((x5_2).toNat * 5)).block, (ad203.add ((x5_2).toNat * 5)).off + 3, none⟩ = some (.string ((rd_T38 l1_0 x5_2).f3)) ∧ w'.cell? ⟨(ad203.add ((x5_2).toNat * 5)).block, (ad203.add ((x5_2).toNat * 5)).off + 4, none⟩ = some (.slice A203_4 ((rd_T38 l1_0 x5_2).f4).length c203_4)) (ds := []) #[false, false, false, false, false, false, false, false, false, false, false, false] (by kernel_rfl) rfl rfl ⟨(blk_cell BK200.out 0).trans rfl, (blk_cell BK200.out 1).trans rfl, (blk_cell BK201.out 0).trans rfl, (blk_cell BK201.out 1).trans rfl, ((HB.out.cell (World.block_lt_of_cell? w _ hw202_0)).trans hw202_0), ((HB.out.cell (World.block_lt_of_cell? w _ hw202_1)).trans hw202_1), ((HB.out.cell (World.block_lt_of_cell? w _ hw202_2)).trans hw202_2), ((HB.out.cell (World.block_lt_of_cell? w _ hw202_3)).trans hw202_3), ((HB.out.cell (World.block_lt_of_cell? w _ hw202_4)).trans hw202_4), ((HB.out.cell (World.block_lt_of_cell? w _ hw203_0)).trans hw203_0), ((HB.out.cell (World.block_lt_of_cell? w _ hw203_1)).trans hw203_1), ((HB.out.cell (World.block_lt_of_cell? w _ hw203_2)).trans hw203_2), ((HB.out.cell (World.block_lt_of_cell? w _ hw203_3)).trans hw203_3), ((HB.out.cell (World.block_lt_of_cell? w _ hw203_4)).trans hw203_4)⟩ (fun hHeld => ?_); refine with_tabW copyholdref08_Same.tab6 copyholdref08_Same.bits6 (fun HT_ HW_ => ?_)
          generalize wr.drew = w25 at BK200 BK201 HB HR202_4 HR203_4 hx202_0 hx202_1 hx202_2 hx202_3 hx202_4 hx203_0 hx203_1 hx203_2 hx203_3 hx203_4 hHeld ⊢
          refine zp 0 28 (zb 12 1) HT_.out ?_
          refine zp 2 30 (zb 12 5) HT_.out ?_
          refine zp 5 33 (zb 12 37) HT_.out ?_
          refine zp 7 35 (zb 12 165) HT_.out ?_
          refine zt 1 29 (zb 12 167) HT_.out HW_.out hHeld ?_
          refine zp 3 31 (zb 12 175) HT_.out ?_
          refine zt 4 32 (zb 12 191) HT_.out HW_.out hHeld ?_
          refine zt 6 34 (zb 12 255) HT_.out HW_.out hHeld ?_
          refine zp 8 36 (zb 12 511) HT_.out ?_
          refine zt 9 37 (zb 12 1023) HT_.out HW_.out hHeld ?_
          refine one_ (i := 10) (N := some 38) (zb 12 2047) rfl rfl (one_of HT_.out (by kernel_rfl)) (by decide) (fun K hK => ?_)
          refine goes_ Try.func30 (by kernel_rfl) rfl #[.agg #[.int .i64 ((rd_T38 l0_0 x5_2).f0), .int .i64 ((rd_T38 l0_0 x5_2).f1), .int .i64 ((rd_T38 l0_0 x5_2).f2), .string ((rd_T38 l0_0 x5_2).f3), .slice A202_4 ((rd_T38 l0_0 x5_2).f4).length c202_4], .agg #[.int .i64 ((rd_T38 l1_0 x5_2).f0), .int .i64 ((rd_T38 l1_0 x5_2).f1), .int .i64 ((rd_T38 l1_0 x5_2).f2), .string ((rd_T38 l1_0 x5_2).f3), .slice A203_4 ((rd_T38 l1_0 x5_2).f4).length c203_4]] (by rfl) rfl rfl zra ?_
          with_reducible refine (copyholdref07_Same.calls k2 ((rd_T38 l0_0 x5_2).f0) ((rd_T38 l0_0 x5_2).f1) ((rd_T38 l0_0 x5_2).f2) ((rd_T38 l0_0 x5_2).f3) _ _ ((rd_T38 l0_0 x5_2).f4) ((rd_T38 l1_0 x5_2).f0) ((rd_T38 l1_0 x5_2).f1) ((rd_T38 l1_0 x5_2).f2) ((rd_T38 l1_0 x5_2).f3) _ _ ((rd_T38 l1_0 x5_2).f4) false _ ?side1 ?side2 ?side3 ?side4 A17.out).mono ?_
          (case side1 => exact zrc (Kd.C_below HR202_4.out HB.out))
          (case side2 => exact HC202_4.out)
          (case side3 => exact zrc (Kd.C_below HR203_4.out HB.out))
          (case side4 => exact HC203_4.out)
          rintro e w26 ⟨rfl, hb⟩
          refine ⟨_, rfl, ?_⟩
          replace BK200 := zqj (blk_below (g := gb200) (o := .cells #[.slice (some ad202) l0_0.length c0_0, .int .i64 a0_1] 34 (0, 0)) (zrb BK200.out) hb); replace BK201 := zqj (blk_below (g := gb201) (o := .cells #[.slice (some ad203) l1_0.length c1_0, .int .i64 a1_1] 34 (0, 0)) (zrb BK201.out) hb); replace HB := zqj (below_step (zrd2 HB.out GE200.out GE201.out) hb)
          (try clear hb); (try clear hb2); (try clear hk); (try clear hi)
          refine hK.out _ _ ⟨(blk_cell BK200.out 0).trans rfl, (blk_cell BK200.out 1).trans rfl, (blk_cell BK201.out 0).trans rfl, (blk_cell BK201.out 1).trans rfl, ((HB.out.cell (World.block_lt_of_cell? w _ hw202_0)).trans hw202_0), ((HB.out.cell (World.block_lt_of_cell? w _ hw202_1)).trans hw202_1), ((HB.out.cell (World.block_lt_of_cell? w _ hw202_2)).trans hw202_2), ((HB.out.cell (World.block_lt_of_cell? w _ hw202_3)).trans hw202_3), ((HB.out.cell (World.block_lt_of_cell? w _ hw202_4)).trans hw202_4), ((HB.out.cell (World.block_lt_of_cell? w _ hw203_0)).trans hw203_0), ((HB.out.cell (World.block_lt_of_cell? w _ hw203_1)).trans hw203_1), ((HB.out.cell (World.block_lt_of_cell? w _ hw203_2)).trans hw203_2), ((HB.out.cell (World.block_lt_of_cell? w _ hw203_3)).trans hw203_3), ((HB.out.cell (World.block_lt_of_cell? w _ hw203_4)).trans hw203_4)⟩ (fun hHeld => ?_)
          clear hK K
          refine norm_ (a' := ?_) ?_ ?_
          rotate_left
          ·show Act.put _ (some 38) _ = _
           simp only [Act.put, zqk, zql, zqm, i64_w, i32_w]
           rfl
          refine zp 11 6 (zb 12 4095) HT_.out ?_
          refine done_ (done_of HT_.out (by kernel_rfl)) ?_
          try go_wp2
          go_ret
          exact ⟨zru, by repeat (first | (with_reducible first | exact HB.out | apply zqg | apply zqe | apply zqf | refine zqd ?_ GE200.out | refine zqd ?_ GE201.out) | exact HB.out)⟩
        ·rw [if_neg c16] at H
         exact absurd H (by simp)
       ·rw [if_neg c15] at H
        exact absurd H (by simp)
      ·rw [if_neg c14] at H
       have c14b0 : decide (x5_2 < (l0_0.length : Int)) = false := decide_eq_false c14
       clear c14
       obtain rfl := Option.some.inj H
       have hnb27 := NB200_201.out
       have hnc27 := NB201_200.out
       obtain ⟨hcz28_0, hcz28_1⟩ := zc2 BK200.out
       (obtain ⟨hfz28_0, hfz28_1⟩ := zf2 BK200.out)
       go_wp2
       go_ret
       exact ⟨zru, by repeat (first | (with_reducible first | exact HB.out | apply zqg | apply zqe | apply zqf | refine zqd ?_ GE200.out | refine zqd ?_ GE201.out) | exact HB.out)⟩
end Go.Proofs.Ytdkgkiemndlneaa.Q
end

section
namespace Go.Proofs.Ytdkgkiemndlneaa.Q
open Go.RowKit Go.Proofs.YtdkgkiemndlneaaW.PrintWords Go.Proofs.YtdkgkiemndlneaaW.PrintLast Go.Proofs.YtdkgkiemndlneaaW.PrintMore
attribute [local go_sem] max2_int min2_int max_two min_two max_three min_three max_four min_four   -- for this text's walks alone
open Go.Proofs.Ytdkgkiemndlneaa.X
attribute [local go_sem high] Go.Proofs.Ytdkgkiemndlneaa.px_xor_u8 Go.Proofs.Ytdkgkiemndlneaa.px_xor_u16 Go.Proofs.Ytdkgkiemndlneaa.px_xor_u32 Go.Proofs.Ytdkgkiemndlneaa.px_xor_u64
def copyholdref12_seen.l0 : Nat → Int → Int → Int → List (S58) → Option (Int)
 | 0, _, _, _, _ => none
 | k + 1, x1, x5, x206000, x206001 => if x5 ≥ 0 then (if 0 ≤ x5 then (if x5 < (x206001.length : Int) then (if ((rd_T58 x206001 x5).f0) > x1 then (copyholdref12_seen.l0 k x1 (wrap64 (x5 - 1)) x206000 x206001) else (some x5)) else (none)) else (none)) else (some x5)
def copyholdref12_seen.f (k : Nat) (a0_0 : Int) (l0_1 : List (S58)) (a1 : Int) : Option (Int) := copyholdref12_seen.l0 k a1 (wrap64 ((l0_1.length : Int) - 1)) a0_0 l0_1
theorem copyholdref12_seen.mono_l : ∀ k, (∀ y0 y1 y2 y3, LeO (copyholdref12_seen.l0 k y0 y1 y2 y3) (copyholdref12_seen.l0 (k + 1) y0 y1 y2 y3))
 | 0 => fun _ _ _ _ r h => by simp [copyholdref12_seen.l0] at h
 | k + 1 => by
  have ih0 := copyholdref12_seen.mono_l k
  ·intro y0 y1 y2 y3
   unfold copyholdref12_seen.l0
   repeat' first
   | (with_reducible exact ih0 _ _ _ _)
   | (with_reducible exact LeO.refl _)
   | (with_reducible exact LeO.none _)
   | (with_reducible refine LeO.ite ?_ ?_)
   | (with_reducible refine LeO.bind ?_ (fun _ => ?_))
   | exact ih0 _ _ _ _
   | exact LeO.none _
   | refine LeO.ite ?_ ?_
   | refine LeO.bind ?_ (fun _ => ?_)
theorem copyholdref12_seen.mono : ∀ a0 a1 a2 k, LeO (copyholdref12_seen.f k a0 a1 a2) (copyholdref12_seen.f (k + 1) a0 a1 a2) := by
 intro a0 a1 a2 k
 have ih0 := copyholdref12_seen.mono_l k
 unfold copyholdref12_seen.f
 repeat' first
   | (with_reducible exact ih0 _ _ _ _)
   | (with_reducible exact LeO.refl _)
   | (with_reducible exact LeO.none _)
   | (with_reducible refine LeO.ite ?_ ?_)
   | (with_reducible refine LeO.bind ?_ (fun _ => ?_))
   | exact ih0 _ _ _ _
   | exact LeO.none _
   | refine LeO.ite ?_ ?_
   | refine LeO.bind ?_ (fun _ => ?_)
set_option maxHeartbeats 8000000 in
set_option maxRecDepth 100000 in
theorem copyholdref12_seen.calls (k : Nat) (a0_0 : Int) (A0_1 : Option Addr) (c0_1 : Nat) (l0_1 : List (S58)) (a1 : Int) (r : Int) (w : World) (hr0_1 : Kd.C k58 w A0_1 l0_1.length l0_1) (hc0_1 : l0_1.length ≤ c0_1) (h : copyholdref12_seen.f k a0_0 l0_1 a1 = some r) :
  Calls Try.prog 42 #[.agg #[.int .i64 a0_0, .slice A0_1 l0_1.length c0_1], .int .i64 a1] w fun e w' => e = .returned (.int .i64 r) ∧ Below w.heap.size w w' := by
 have hu55 := Try.underlying55
 have HR0_1 := zqj hr0_1
 have HC0_1 := zqj hc0_1
 clear hr0_1 hc0_1
 have HB := zqj (Below.refl w.heap.size w)
 have H : (copyholdref12_seen.l0 k a1 (wrap64 ((l0_1.length : Int) - 1)) a0_0 l0_1) = some r := h
 clear h
 have H' := zqj H
 clear H
 go_enter Try.func42, Try.ntmps42
 go_wp2_with (first | ((with_reducible refine gate_dst (N := 2) rfl ?_); refine box_event ?hg (N := 2) ?hd (cs := #[.int .i64 a0_0, .slice A0_1 l0_1.length c0_1]) (t := 55) ?hr ?_; (case hd => rfl); (case hg => rfl); (case hr => exact zrr); intro gb205 hg w3 hbox hb; have n0_ := zqj (below_step (zrd0 HB.out) hb); have n1_ := zqj (hbox); have n2_ : Aside0 (w.heap.size ≤ gb205) := ⟨by rw [hg]; exact below_size (zrd0 HB.out)⟩; have n3_ := n2_; clear HB; have HB := n0_; have BK205 := n1_; have GW205 := n2_; have GE205 := n3_; clear n0_ n1_ n2_ n3_; clear hb hbox hg; obtain ⟨hcz4_0, hcz4_1⟩ := zc2 BK205.out; obtain ⟨hfz4_0, hfz4_1⟩ := zf2 BK205.out))
 go_loopg [5] k (fun kq v5 w' => ∃ (x5_1 : Int), v5 = .int .i64 x5_1 ∧ Aside0 (copyholdref12_seen.l0 kq a1 x5_1 a0_0 l0_1 = some r) ∧ Aside0 (kq ≤ k) ∧ Aside0 (w'.heap[gb205]? = some (.cells #[.int .i64 a0_0, (.slice A0_1 l0_1.length c0_1)] 55 (0, 0))) ∧ Aside0 (Below w.heap.size w w'))
 case atStart => exact ⟨(wrap64 ((l0_1.length : Int) - 1)), zrt, H', ⟨Nat.le_refl _⟩, ⟨by (with_reducible repeat (first | refine zqa ?_ _ | refine zqb ?_ | refine zqc ?_ _)); exact BK205.out⟩, ⟨by repeat (first | (with_reducible first | exact HB.out | apply zqg | apply zqe | apply zqf | refine zqd ?_ GE205.out) | exact HB.out)⟩⟩
 case round =>
  clear H'
  ((try clear p2); (try clear c4); (try clear hcz4_0); (try clear hcz4_1); (try clear hfz4_0); (try clear hfz4_1))
  obtain ⟨x5_1, rfl, HA, HK1, BK205, HB⟩ := hrel
  cases gk with
  | zero => exact absurd HA.out (by simp [copyholdref12_seen.l0])
  | succ k1 =>
   (have H := HA.out; clear HA)
   simp only [copyholdref12_seen.l0] at H
   by_cases c5 : x5_1 ≥ 0
   ·rw [if_pos c5] at H
    have c5b0 : decide (0 ≤ x5_1) = true := decide_eq_true c5
    clear c5
    by_cases c6 : 0 ≤ x5_1
    ·rw [if_pos c6] at H
     have c6b0 : decide (0 ≤ x5_1) = true := decide_eq_true c6
     clear c6
     by_cases c7 : x5_1 < (l0_1.length : Int)
     ·rw [if_pos c7] at H
      have c7b0 : decide (x5_1 < (l0_1.length : Int)) = true := decide_eq_true c7
      clear c7
      by_cases c8 : ((rd_T58 l0_1 x5_1).f0) > a1
      ·rw [if_pos c8] at H
       have c8b0 : decide (a1 < ((rd_T58 l0_1 x5_1).f0)) = true := decide_eq_true c8
       clear c8
       have H' := zqj H
       clear H
       obtain ⟨hcz9_0, hcz9_1⟩ := zc2 BK205.out
       (obtain ⟨hfz9_0, hfz9_1⟩ := zf2 BK205.out)
       have p206 : 0 ≤ (x5_1 : Int) := zqh zrs
       have q206 : x5_1 < (l0_1.length : Int) := zqh zrs
       obtain ⟨ad206, A206_6, c206_6, e206, hx206_0, hx206_1, hx206_2, hx206_3, hx206_4, hx206_5, hx206_6, hl206_6, hi206_6⟩ := at_T58 HR0_1.out x5_1 p206 q206
       cases e206
       replace hx206_0 := zx HB.out hx206_0
       replace hx206_1 := zx HB.out hx206_1
       replace hx206_2 := zx HB.out hx206_2
       replace hx206_3 := zx HB.out hx206_3
       replace hx206_4 := zx HB.out hx206_4
       replace hx206_5 := zx HB.out hx206_5
       replace hx206_6 := zx HB.out hx206_6
       have HR206_6 := zqj hi206_6
       have HC206_6 := zqj hl206_6
       clear hi206_6 hl206_6
       replace p206 := eq_true p206
       replace q206 := eq_true q206
       go_wp2
       go_roundg k1
       case measure => have := HK1.out; omega
       case rel => exact ⟨(wrap64 (x5_1 - 1)), zrt, H', ⟨by have := HK1.out; omega⟩, ⟨by (with_reducible repeat (first | refine zqa ?_ _ | refine zqb ?_ | refine zqc ?_ _)); exact BK205.out⟩, ⟨by repeat (first | (with_reducible first | exact HB.out | apply zqg | apply zqe | apply zqf | refine zqd ?_ GE205.out) | exact HB.out)⟩⟩
      ·rw [if_neg c8] at H
       have c8b0 : decide (a1 < ((rd_T58 l0_1 x5_1).f0)) = false := decide_eq_false c8
       clear c8
       obtain rfl := Option.some.inj H
       obtain ⟨hcz10_0, hcz10_1⟩ := zc2 BK205.out
       (obtain ⟨hfz10_0, hfz10_1⟩ := zf2 BK205.out)
       have p206 : 0 ≤ (x5_1 : Int) := zqh zrs
       have q206 : x5_1 < (l0_1.length : Int) := zqh zrs
       obtain ⟨ad206, A206_6, c206_6, e206, hx206_0, hx206_1, hx206_2, hx206_3, hx206_4, hx206_5, hx206_6, hl206_6, hi206_6⟩ := at_T58 HR0_1.out x5_1 p206 q206
       cases e206
       replace hx206_0 := zx HB.out hx206_0
       replace hx206_1 := zx HB.out hx206_1
       replace hx206_2 := zx HB.out hx206_2
       replace hx206_3 := zx HB.out hx206_3
       replace hx206_4 := zx HB.out hx206_4
       replace hx206_5 := zx HB.out hx206_5
       replace hx206_6 := zx HB.out hx206_6
       have HR206_6 := zqj hi206_6
       have HC206_6 := zqj hl206_6
       clear hi206_6 hl206_6
       replace p206 := eq_true p206
       replace q206 := eq_true q206
       go_wp2
       go_ret
       exact ⟨zru, by repeat (first | (with_reducible first | exact HB.out | apply zqg | apply zqe | apply zqf | refine zqd ?_ GE205.out) | exact HB.out)⟩
     ·rw [if_neg c7] at H
      exact absurd H (by simp)
    ·rw [if_neg c6] at H
     exact absurd H (by simp)
   ·rw [if_neg c5] at H
    have c5b0 : decide (0 ≤ x5_1) = false := decide_eq_false c5
    clear c5
    obtain rfl := Option.some.inj H
    go_wp2
    go_ret
    exact ⟨zru, by repeat (first | (with_reducible first | exact HB.out | apply zqg | apply zqe | apply zqf | refine zqd ?_ GE205.out) | exact HB.out)⟩
def copyholdref12_next.l0 : Nat → Int → Int → List (S55) → List (S61) → Int → Option (Int)
 | 0, _, _, _, _, _ => none
 | k + 1, x1, x5, x208000, x208001, x208002 => if x5 ≥ 0 then (if 0 ≤ x5 then (if x5 < (x208001.length : Int) then (if ((rd_T61 x208001 x5).f0) > x1 then (copyholdref12_next.l0 k x1 (wrap64 (x5 - 1)) x208000 x208001 x208002) else (some x5)) else (none)) else (none)) else (some x5)
def copyholdref12_next.f (k : Nat) (l0_0 : List (S55)) (l0_1 : List (S61)) (a0_2 : Int) (a1 : Int) : Option (Int) := copyholdref12_next.l0 k a1 (wrap64 ((l0_1.length : Int) - 1)) l0_0 l0_1 a0_2
theorem copyholdref12_next.mono_l : ∀ k, (∀ y0 y1 y2 y3 y4, LeO (copyholdref12_next.l0 k y0 y1 y2 y3 y4) (copyholdref12_next.l0 (k + 1) y0 y1 y2 y3 y4))
 | 0 => fun _ _ _ _ _ r h => by simp [copyholdref12_next.l0] at h
 | k + 1 => by
  have ih0 := copyholdref12_next.mono_l k
  ·intro y0 y1 y2 y3 y4
   unfold copyholdref12_next.l0
   repeat' first
   | (with_reducible exact ih0 _ _ _ _ _)
   | (with_reducible exact LeO.refl _)
   | (with_reducible exact LeO.none _)
   | (with_reducible refine LeO.ite ?_ ?_)
   | (with_reducible refine LeO.bind ?_ (fun _ => ?_))
   | exact ih0 _ _ _ _ _
   | exact LeO.none _
   | refine LeO.ite ?_ ?_
   | refine LeO.bind ?_ (fun _ => ?_)
theorem copyholdref12_next.mono : ∀ a0 a1 a2 a3 k, LeO (copyholdref12_next.f k a0 a1 a2 a3) (copyholdref12_next.f (k + 1) a0 a1 a2 a3) := by
 intro a0 a1 a2 a3 k
 have ih0 := copyholdref12_next.mono_l k
 unfold copyholdref12_next.f
 repeat' first
   | (with_reducible exact ih0 _ _ _ _ _)
   | (with_reducible exact LeO.refl _)
   | (with_reducible exact LeO.none _)
   | (with_reducible refine LeO.ite ?_ ?_)
   | (with_reducible refine LeO.bind ?_ (fun _ => ?_))
   | exact ih0 _ _ _ _ _
   | exact LeO.none _
   | refine LeO.ite ?_ ?_
   | refine LeO.bind ?_ (fun _ => ?_)
set_option maxHeartbeats 8000000 in
set_option maxRecDepth 100000 in
theorem copyholdref12_next.calls (k : Nat) (A0_0 : Option Addr) (c0_0 : Nat) (l0_0 : List (S55)) (A0_1 : Option Addr) (c0_1 : Nat) (l0_1 : List (S61)) (a0_2 : Int) (a1 : Int) (r : Int) (w : World) (hr0_0 : Kd.C k55 w A0_0 l0_0.length l0_0) (hc0_0 : l0_0.length ≤ c0_0) (hr0_1 : Kd.C k61 w A0_1 l0_1.length l0_1) (hc0_1 : l0_1.length ≤ c0_1) (h : copyholdref12_next.f k l0_0 l0_1 a0_2 a1 = some r) :
  Calls Try.prog 43 #[.agg #[.slice A0_0 l0_0.length c0_0, .slice A0_1 l0_1.length c0_1, .int .i64 a0_2], .int .i64 a1] w fun e w' => e = .returned (.int .i64 r) ∧ Below w.heap.size w w' := by
 have hu25 := Try.underlying25
 have HR0_0 := zqj hr0_0
 have HC0_0 := zqj hc0_0
 clear hr0_0 hc0_0
 have HR0_1 := zqj hr0_1
 have HC0_1 := zqj hc0_1
 clear hr0_1 hc0_1
 have HB := zqj (Below.refl w.heap.size w)
 have H : (copyholdref12_next.l0 k a1 (wrap64 ((l0_1.length : Int) - 1)) l0_0 l0_1 a0_2) = some r := h
 clear h
 have H' := zqj H
 clear H
 go_enter Try.func43, Try.ntmps43
 go_wp2_with (first | ((with_reducible refine gate_dst (N := 2) rfl ?_); refine box_event ?hg (N := 2) ?hd (cs := #[.slice A0_0 l0_0.length c0_0, .slice A0_1 l0_1.length c0_1, .int .i64 a0_2]) (t := 25) ?hr ?_; (case hd => rfl); (case hg => rfl); (case hr => exact zrr); intro gb207 hg w3 hbox hb; have n0_ := zqj (below_step (zrd0 HB.out) hb); have n1_ := zqj (hbox); have n2_ : Aside0 (w.heap.size ≤ gb207) := ⟨by rw [hg]; exact below_size (zrd0 HB.out)⟩; have n3_ := n2_; clear HB; have HB := n0_; have BK207 := n1_; have GW207 := n2_; have GE207 := n3_; clear n0_ n1_ n2_ n3_; clear hb hbox hg; obtain ⟨hcz4_0, hcz4_1, hcz4_2⟩ := zc3 BK207.out; obtain ⟨hfz4_0, hfz4_1, hfz4_2⟩ := zf3 BK207.out))
 go_loopg [5] k (fun kq v5 w' => ∃ (x5_1 : Int), v5 = .int .i64 x5_1 ∧ Aside0 (copyholdref12_next.l0 kq a1 x5_1 l0_0 l0_1 a0_2 = some r) ∧ Aside0 (kq ≤ k) ∧ Aside0 (w'.heap[gb207]? = some (.cells #[(.slice A0_0 l0_0.length c0_0), (.slice A0_1 l0_1.length c0_1), .int .i64 a0_2] 25 (0, 0))) ∧ Aside0 (Below w.heap.size w w'))
 case atStart => exact ⟨(wrap64 ((l0_1.length : Int) - 1)), zrt, H', ⟨Nat.le_refl _⟩, ⟨by (with_reducible repeat (first | refine zqa ?_ _ | refine zqb ?_ | refine zqc ?_ _)); exact BK207.out⟩, ⟨by repeat (first | (with_reducible first | exact HB.out | apply zqg | apply zqe | apply zqf | refine zqd ?_ GE207.out) | exact HB.out)⟩⟩
 case round =>
  clear H'
  ((try clear p2); (try clear c4); (try clear hcz4_0); (try clear hcz4_1); (try clear hcz4_2); (try clear hfz4_0); (try clear hfz4_1); (try clear hfz4_2))
  obtain ⟨x5_1, rfl, HA, HK1, BK207, HB⟩ := hrel
  cases gk with
  | zero => exact absurd HA.out (by simp [copyholdref12_next.l0])
  | succ k1 =>
   (have H := HA.out; clear HA)
   simp only [copyholdref12_next.l0] at H
   by_cases c5 : x5_1 ≥ 0
   ·rw [if_pos c5] at H
    have c5b0 : decide (0 ≤ x5_1) = true := decide_eq_true c5
    clear c5
    by_cases c6 : 0 ≤ x5_1
    ·rw [if_pos c6] at H
     have c6b0 : decide (0 ≤ x5_1) = true := decide_eq_true c6
     clear c6
     by_cases c7 : x5_1 < (l0_1.length : Int)
     ·rw [if_pos c7] at H
      have c7b0 : decide (x5_1 < (l0_1.length : Int)) = true := decide_eq_true c7
      clear c7
      by_cases c8 : ((rd_T61 l0_1 x5_1).f0) > a1
      ·rw [if_pos c8] at H
       have c8b0 : decide (a1 < ((rd_T61 l0_1 x5_1).f0)) = true := decide_eq_true c8
       clear c8
       have H' := zqj H
       clear H
       obtain ⟨hcz9_0, hcz9_1, hcz9_2⟩ := zc3 BK207.out
       (obtain ⟨hfz9_0, hfz9_1, hfz9_2⟩ := zf3 BK207.out)
       have p208 : 0 ≤ (x5_1 : Int) := zqh zrs
       have q208 : x5_1 < (l0_1.length : Int) := zqh zrs
       obtain ⟨ad208, e208, hx208_0, hx208_1⟩ := at_T61 HR0_1.out x5_1 p208 q208
       cases e208
       replace hx208_0 := zx HB.out hx208_0
       replace hx208_1 := zx HB.out hx208_1
       replace p208 := eq_true p208
       replace q208 := eq_true q208
       go_wp2
       go_roundg k1
       case measure => have := HK1.out; omega
       case rel => exact ⟨(wrap64 (x5_1 - 1)), zrt, H', ⟨by have := HK1.out; omega⟩, ⟨by (with_reducible repeat (first | refine zqa ?_ _ | refine zqb ?_ | refine zqc ?_ _)); exact BK207.out⟩, ⟨by repeat (first | (with_reducible first | exact HB.out | apply zqg | apply zqe | apply zqf | refine zqd ?_ GE207.out) | exact HB.out)⟩⟩
      ·rw [if_neg c8] at H
       have c8b0 : decide (a1 < ((rd_T61 l0_1 x5_1).f0)) = false := decide_eq_false c8
       clear c8
       obtain rfl := Option.some.inj H
       obtain ⟨hcz10_0, hcz10_1, hcz10_2⟩ := zc3 BK207.out
       (obtain ⟨hfz10_0, hfz10_1, hfz10_2⟩ := zf3 BK207.out)
       have p208 : 0 ≤ (x5_1 : Int) := zqh zrs
       have q208 : x5_1 < (l0_1.length : Int) := zqh zrs
       obtain ⟨ad208, e208, hx208_0, hx208_1⟩ := at_T61 HR0_1.out x5_1 p208 q208
       cases e208
       replace hx208_0 := zx HB.out hx208_0
       replace hx208_1 := zx HB.out hx208_1
       replace p208 := eq_true p208
       replace q208 := eq_true q208
       go_wp2
       go_ret
       exact ⟨zru, by repeat (first | (with_reducible first | exact HB.out | apply zqg | apply zqe | apply zqf | refine zqd ?_ GE207.out) | exact HB.out)⟩
     ·rw [if_neg c7] at H
      exact absurd H (by simp)
    ·rw [if_neg c6] at H
     exact absurd H (by simp)
   ·rw [if_neg c5] at H
    have c5b0 : decide (0 ≤ x5_1) = false := decide_eq_false c5
    clear c5
    obtain rfl := Option.some.inj H
    go_wp2
    go_ret
    exact ⟨zru, by repeat (first | (with_reducible first | exact HB.out | apply zqg | apply zqe | apply zqf | refine zqd ?_ GE207.out) | exact HB.out)⟩
def copyholdref12_View.l0 : Nat → Int → Int → List (S55) → List (S61) → Int → List (S38) → Int → Option ((List (S38)) × Int)
 | 0, _, _, _, _, _, _, _ => none
 | k + 1, x1, x6, x210000, x210001, x210002, x212000, x212001 => if x6 < (x210000.length : Int) then (if 0 ≤ x6 then ((copyholdref12_seen.f k ((rd_T55 x210000 x6).f0) ((rd_T55 x210000 x6).f1) x1).bind fun t213 => (if t213 ≥ 0 then (if 0 ≤ t213 then (if t213 < (((rd_T55 x210000 x6).f1).length : Int) then (if ((rd_T58 ((rd_T55 x210000 x6).f1) t213).f1 = true) then (copyholdref12_View.l0 k x1 (wrap64 (x6 + 1)) x210000 x210001 x210002 x212000 x212001) else (if x212000.length < 2199023255552 then (copyholdref12_View.l0 k x1 (wrap64 (x6 + 1)) x210000 x210001 x210002 (x212000 ++ [(⟨(rd_T58 ((rd_T55 x210000 x6).f1) t213).f2.f0, (rd_T58 ((rd_T55 x210000 x6).f1) t213).f2.f1, (rd_T58 ((rd_T55 x210000 x6).f1) t213).f2.f2, (rd_T58 ((rd_T55 x210000 x6).f1) t213).f2.f3, (rd_T58 ((rd_T55 x210000 x6).f1) t213).f2.f4⟩ : S38)]) x212001) else (none))) else (none)) else (none)) else (copyholdref12_View.l0 k x1 (wrap64 (x6 + 1)) x210000 x210001 x210002 x212000 x212001))) else (none)) else ((copyholdref12_next.f k x210000 x210001 x210002 x1).bind fun t221 => (if t221 ≥ 0 then (if 0 ≤ t221 then (if t221 < (x210001.length : Int) then (some (x212000, (rd_T61 x210001 t221).f1)) else (none)) else (none)) else (some (x212000, x212001))))
def copyholdref12_View.f (k : Nat) (l0_0 : List (S55)) (l0_1 : List (S61)) (a0_2 : Int) (a1 : Int) : Option ((List (S38)) × Int) := copyholdref12_View.l0 k a1 0 l0_0 l0_1 a0_2 ([] : List (S38)) 1
theorem copyholdref12_View.mono_l : ∀ k, (∀ y0 y1 y2 y3 y4 y5 y6, LeO (copyholdref12_View.l0 k y0 y1 y2 y3 y4 y5 y6) (copyholdref12_View.l0 (k + 1) y0 y1 y2 y3 y4 y5 y6))
 | 0 => fun _ _ _ _ _ _ _ r h => by simp [copyholdref12_View.l0] at h
 | k + 1 => by
  have ih0 := copyholdref12_View.mono_l k
  ·intro y0 y1 y2 y3 y4 y5 y6
   unfold copyholdref12_View.l0
   repeat' first
   | (with_reducible exact ih0 _ _ _ _ _ _ _)
   | (with_reducible exact copyholdref12_next.mono _ _ _ _ _)
   | (with_reducible exact copyholdref12_seen.mono _ _ _ _)
   | (with_reducible exact LeO.refl _)
   | (with_reducible exact LeO.none _)
   | (with_reducible refine LeO.ite ?_ ?_)
   | (with_reducible refine LeO.bind ?_ (fun _ => ?_))
   | exact ih0 _ _ _ _ _ _ _
   | exact copyholdref12_next.mono _ _ _ _ _
   | exact copyholdref12_seen.mono _ _ _ _
   | exact LeO.none _
   | refine LeO.ite ?_ ?_
   | refine LeO.bind ?_ (fun _ => ?_)
theorem copyholdref12_View.mono : ∀ a0 a1 a2 a3 k, LeO (copyholdref12_View.f k a0 a1 a2 a3) (copyholdref12_View.f (k + 1) a0 a1 a2 a3) := by
 intro a0 a1 a2 a3 k
 have ih0 := copyholdref12_View.mono_l k
 unfold copyholdref12_View.f
 repeat' first
   | (with_reducible exact ih0 _ _ _ _ _ _ _)
   | (with_reducible exact copyholdref12_next.mono _ _ _ _ _)
   | (with_reducible exact copyholdref12_seen.mono _ _ _ _)
   | (with_reducible exact LeO.refl _)
   | (with_reducible exact LeO.none _)
   | (with_reducible refine LeO.ite ?_ ?_)
   | (with_reducible refine LeO.bind ?_ (fun _ => ?_))
   | exact ih0 _ _ _ _ _ _ _
   | exact copyholdref12_next.mono _ _ _ _ _
   | exact copyholdref12_seen.mono _ _ _ _
   | exact LeO.none _
   | refine LeO.ite ?_ ?_
   | refine LeO.bind ?_ (fun _ => ?_)
def copyholdref12_View.T7 : Bool × List (List Nat × List Nat) := (true, [([], []), ([0], [0]), ([], []), ([2], [2]), ([], []), ([3, 4], [3, 4]), ([5], [5]), ([6], [6]), ([], []), ([7, 8], [7, 8]), ([9], [9]), ([10], [10]), ([11], [11]), ([1, 12], [1, 12]), ([0, 1, 2, 3, 4, 5, 6, 7, 8, 9, 10, 11, 12, 13], []), ([14, 13, 13, 0, 1, 2, 3, 4, 5, 6, 7, 8, 9, 10, 11, 12, 13], [13, 14])])
def copyholdref12_View.B7 : List Nat := [0, 1, 0, 4, 0, 28, 60, 124, 0, 508, 1020, 2044, 4092, 8191, 16383, 32767]
theorem copyholdref12_View.tab7 : rtab .any (opsOf Try.f16 7) = copyholdref12_View.T7 := by kernel_rfl
theorem copyholdref12_View.bits7 : waitsOk copyholdref12_View.T7.2 copyholdref12_View.B7 = true := by kernel_rfl
set_option maxHeartbeats 8000000 in
set_option maxRecDepth 100000 in
theorem copyholdref12_View.calls (k : Nat) (P0_0_ : Nat → Prop) (A0_0 : Option Addr) (c0_0 : Nat) (l0_0 : List (S55)) (A0_1 : Option Addr) (c0_1 : Nat) (l0_1 : List (S61)) (a0_2 : Int) (a1 : Int) (r1 : List (S38)) (r2 : Int) (w : World) (hs0_0 : Kd.V k55 55 w w.heap.size (fun k_ => P0_0_ k_) (.slice A0_0 l0_0.length c0_0) l0_0) (hr0_1 : Kd.C k61 w A0_1 l0_1.length l0_1) (hc0_1 : l0_1.length ≤ c0_1) (h : copyholdref12_View.f k l0_0 l0_1 a0_2 a1 = some (r1, r2)) :
  Calls Try.prog 16 #[.agg #[.slice A0_0 l0_0.length c0_0, .slice A0_1 l0_1.length c0_1, .int .i64 a0_2], .int .i64 a1] w fun e w' => ∃ v0_ : Value, e = .returned (.agg #[v0_, .int .i64 r2]) ∧ Kd.N k38 38 w' w.heap.size (fun k_ => (P0_0_ k_ ∨ w.heap.size ≤ k_)) v0_ r1 ∧ Below w.heap.size w w' := by
 have hu25 := Try.underlying25
 have hu34 := Try.underlying34
 have hu55 := Try.underlying55
 have hu38 := Try.underlying38
 have HO0_0 := zqj (show Kd.V k55 55 w w.heap.size (fun k_ => (P0_0_ k_ ∨ w.heap.size ≤ k_)) (.slice A0_0 l0_0.length c0_0) l0_0 from Kd.V_mono hs0_0 (fun k_ hk => .inl hk))
 have HR0_1 := zqj hr0_1
 have HC0_1 := zqj hc0_1
 clear hr0_1 hc0_1
 have HB := zqj (Below.refl w.heap.size w)
 have H : (copyholdref12_View.l0 k a1 0 l0_0 l0_1 a0_2 ([] : List (S38)) 1) = some (r1, r2) := h
 clear h
 have H' := zqj H
 clear H
 go_enter Try.func16, Try.ntmps16
 go_wp2_with (first | ((with_reducible refine gate_dst (N := 2) rfl ?_); refine box_event ?hg (N := 2) ?hd (cs := #[.slice A0_0 l0_0.length c0_0, .slice A0_1 l0_1.length c0_1, .int .i64 a0_2]) (t := 25) ?hr ?_; (case hd => rfl); (case hg => rfl); (case hr => exact zrr); intro gb209 hg w3 hbox hb; have n0_ := zqj (Kd.V_below (Kd.V_elderB (zrV HO0_0.out) gb209 (Nat.le_of_eq hg.symm)) hb); have n1_ := zqj (below_step (zrd0 HB.out) hb); have n2_ := zqj (hbox); have n3_ := zqj ((by rw [hg]; exact (below_size (zrd0 HB.out)) : w.heap.size ≤ gb209)); have n4_ := zqj ((by rw [hg]; exact (below_size (zrd0 HB.out)) : w.heap.size ≤ gb209)); clear HO0_0; clear HB; have HO0_0 := n0_; have HB := n1_; have BK209 := n2_; have GW209 := n3_; have GE209 := n4_; clear n0_ n1_ n2_ n3_ n4_; clear hb hbox hg) | ((with_reducible refine gate_dst (N := 4) rfl ?_); refine box_event ?hg (N := 4) ?hd (cs := #[.slice none 0 0, .int .i64 0]) (t := 34) ?hr ?_; (case hd => rfl); (case hg => rfl); (case hr => exact zrr); intro gb210 hg w4 hbox hb; have n0_ := zqj (Kd.V_below (Kd.V_elderB (zrV HO0_0.out) gb210 (Nat.le_of_eq hg.symm)) hb); have n1_ := zqj (blk_below (g := gb209) (o := .cells #[.slice A0_0 l0_0.length c0_0, .slice A0_1 l0_1.length c0_1, .int .i64 a0_2] 25 (0, 0)) (zrb BK209.out) hb); have n2_ := zqj (below_step (zrd1 HB.out GE209.out) hb); have n3_ := zqj (hbox); have n4_ := zqj ((by rw [hg]; exact (below_size (zrd1 HB.out GE209.out)) : w.heap.size ≤ gb210)); have n5_ := zqj ((by rw [hg]; exact (below_size (zrd1 HB.out GE209.out)) : w.heap.size ≤ gb210)); have n6_ := zqj ((by rw [hg]; exact Nat.ne_of_lt (blk_lt (g := gb209) (o := .cells #[.slice A0_0 l0_0.length c0_0, .slice A0_1 l0_1.length c0_1, .int .i64 a0_2] 25 (0, 0)) (zrb BK209.out)) : gb209 ≠ gb210)); have n7_ := zqj ((by rw [hg]; exact Nat.ne_of_gt (blk_lt (g := gb209) (o := .cells #[.slice A0_0 l0_0.length c0_0, .slice A0_1 l0_1.length c0_1, .int .i64 a0_2] 25 (0, 0)) (zrb BK209.out)) : gb210 ≠ gb209)); clear HO0_0; clear BK209; clear HB; have HO0_0 := n0_; have BK209 := n1_; have HB := n2_; have BK210 := n3_; have GW210 := n4_; have GE210 := n5_; have NB209_210 := n6_; have NB210_209 := n7_; clear n0_ n1_ n2_ n3_ n4_ n5_ n6_ n7_; clear hb hbox hg) | ((with_reducible refine gate_dst (N := 5) rfl ?_); refine box_event ?hg (N := 5) ?hd (cs := #[.slice none 0 0, .int .i64 0]) (t := 34) ?hr ?_; (case hd => rfl); (case hg => rfl); (case hr => exact zrr); intro gb211 hg w5 hbox hb; have n0_ := zqj (Kd.V_below (Kd.V_elderB (zrV HO0_0.out) gb211 (Nat.le_of_eq hg.symm)) hb); have n1_ := zqj (blk_below (g := gb209) (o := .cells #[.slice A0_0 l0_0.length c0_0, .slice A0_1 l0_1.length c0_1, .int .i64 a0_2] 25 (0, 0)) (zrb BK209.out) hb); have n2_ := zqj (blk_below (g := gb210) (o := .cells #[.slice none 0 0, .int .i64 0] 34 (0, 0)) (zrb BK210.out) hb); have n3_ := zqj (below_step (zrd2 HB.out GE209.out GE210.out) hb); have n4_ := zqj (hbox); have n5_ := zqj ((by rw [hg]; exact (below_size (zrd2 HB.out GE209.out GE210.out)) : w.heap.size ≤ gb211)); have n6_ := zqj ((by rw [hg]; exact (below_size (zrd2 HB.out GE209.out GE210.out)) : w.heap.size ≤ gb211)); have n7_ := zqj ((by rw [hg]; exact Nat.ne_of_lt (blk_lt (g := gb209) (o := .cells #[.slice A0_0 l0_0.length c0_0, .slice A0_1 l0_1.length c0_1, .int .i64 a0_2] 25 (0, 0)) (zrb BK209.out)) : gb209 ≠ gb211)); have n8_ := zqj ((by rw [hg]; exact Nat.ne_of_gt (blk_lt (g := gb209) (o := .cells #[.slice A0_0 l0_0.length c0_0, .slice A0_1 l0_1.length c0_1, .int .i64 a0_2] 25 (0, 0)) (zrb BK209.out)) : gb211 ≠ gb209)); have n9_ := zqj ((by rw [hg]; exact Nat.ne_of_lt (blk_lt (g := gb210) (o := .cells #[.slice none 0 0, .int .i64 0] 34 (0, 0)) (zrb BK210.out)) : gb210 ≠ gb211)); have n10_ := zqj ((by rw [hg]; exact Nat.ne_of_gt (blk_lt (g := gb210) (o := .cells #[.slice none 0 0, .int .i64 0] 34 (0, 0)) (zrb BK210.out)) : gb211 ≠ gb210)); clear HO0_0; clear BK209; clear BK210; clear HB; have HO0_0 := n0_; have BK209 := n1_; have BK210 := n2_; have HB := n3_; have BK211 := n4_; have GW211 := n5_; have GE211 := n6_; have NB209_211 := n7_; have NB211_209 := n8_; have NB210_211 := n9_; have NB211_210 := n10_; clear n0_ n1_ n2_ n3_ n4_ n5_ n6_ n7_ n8_ n9_ n10_; clear hb hbox hg; have hnb6 := NB211_209.out; have hnc6 := NB209_211.out; have hnb7 := NB211_210.out; have hnc7 := NB210_211.out; obtain ⟨hcz8_0, hcz8_1⟩ := zc2 BK211.out; obtain ⟨hfz8_0, hfz8_1⟩ := zf2 BK211.out))
 go_loopg [6] k (fun kq v6 w' => ∃ (x6_1 : Int) (x212000_1 : List (S38)) (u212000 : Value), v6 = .int .i64 x6_1 ∧ Aside0 (copyholdref12_View.l0 kq a1 x6_1 l0_0 l0_1 a0_2 x212000_1 1 = some (r1, r2)) ∧ Aside0 (kq ≤ k) ∧ Aside0 (Kd.V k55 55 w' w.heap.size (fun k_ => (P0_0_ k_ ∨ w.heap.size ≤ k_) ∧ some k_ ≠ (u212000 : Value).ownBlock ∧ k_ ≠ gb209 ∧ k_ ≠ gb210 ∧ k_ ≠ gb211) (.slice A0_0 l0_0.length c0_0) l0_0) ∧ Aside0 (Kd.N k38 38 w' w.heap.size (fun k_ => (P0_0_ k_ ∨ w.heap.size ≤ k_) ∧ k_ ≠ gb209 ∧ k_ ≠ gb210 ∧ k_ ≠ gb211) u212000 x212000_1) ∧ Aside0 (w'.heap[gb209]? = some (.cells #[(.slice A0_0 l0_0.length c0_0), (.slice A0_1 l0_1.length c0_1), .int .i64 a0_2] 25 (0, 0))) ∧ Aside0 (w'.heap[gb210]? = some (.cells #[(.slice none 0 0), .int .i64 0] 34 (0, 0))) ∧ Aside0 (w'.heap[gb211]? = some (.cells #[u212000, .int .i64 1] 34 (0, 0))) ∧ Aside0 (Below w.heap.size w w'))
 case atStart => exact ⟨(0), (([] : List (S38))), (.slice none 0 0), zrt, H', ⟨Nat.le_refl _⟩, ⟨by (with_reducible repeat (first | apply Kd.V_alloc | apply Kd.V_drewN | apply Kd.V_drew)); exact Kd.V_mono (Kd.V_far (p := ⟨gb211, 1, none⟩) (Kd.V_far (p := ⟨gb211, 0, none⟩) (Kd.V_mono HO0_0.out (fun k_ hk => (⟨hk, hk.2⟩ : _ ∧ k_ ≠ gb211))) (fun _ hk => hk.2) (.slice none 0 0)) (fun _ hk => hk.2) (.int .i64 1)) (fun _ hk => ⟨hk.1.1.1.1, ⟨(by simp [Value.ownBlock]), ⟨hk.1.1.1.2, ⟨hk.1.1.2, hk.1.2⟩⟩⟩⟩)⟩, ⟨by first | exact Kd.S_nil _ _ _ _ _ | exact Kd.N_nil _ _ _ _ _ | exact Kd.V_nil _ _ _ _ _ | exact Kd.Q_nil _ _ _ _ _ | exact Kd.R_nil _ _ _ _ _⟩, ⟨by (iterate 2 ((with_reducible repeat (first | refine zqa ?_ _ | refine zqb ?_ | refine zqc ?_ _)); refine blk_far ?_ NB209_211.out _)); (with_reducible repeat (first | refine zqa ?_ _ | refine zqb ?_ | refine zqc ?_ _)); exact BK209.out⟩, ⟨by (iterate 2 ((with_reducible repeat (first | refine zqa ?_ _ | refine zqb ?_ | refine zqc ?_ _)); refine blk_far ?_ NB210_211.out _)); (with_reducible repeat (first | refine zqa ?_ _ | refine zqb ?_ | refine zqc ?_ _)); exact BK210.out⟩, ⟨by (with_reducible repeat (first | refine zqa ?_ _ | refine zqb ?_ | refine zqc ?_ _)); refine blk_put (cs := #[.slice none 0 0, .int .i64 0]) ?_ 1 _ rfl; (with_reducible repeat (first | refine zqa ?_ _ | refine zqb ?_ | refine zqc ?_ _)); refine blk_put (cs := #[.slice none 0 0, .int .i64 0]) ?_ 0 _ rfl; (with_reducible repeat (first | refine zqa ?_ _ | refine zqb ?_ | refine zqc ?_ _)); exact BK211.out⟩, ⟨by repeat (first | (with_reducible first | exact HB.out | apply zqg | apply zqe | apply zqf | refine zqd ?_ GE209.out | refine zqd ?_ GE210.out | refine zqd ?_ GE211.out) | exact HB.out)⟩⟩
 case round =>
  clear H'
  ((try clear c1); (try clear p2); (try clear c6); (try clear c7); (try clear hcz8_0); (try clear hcz8_1); (try clear hfz8_0); (try clear hfz8_1))
  obtain ⟨x6_1, x212000_1, u212000, rfl, HA, HK1, HO_210000, HO_212000, BK209, BK210, BK211, HB⟩ := hrel
  cases gk with
  | zero => exact absurd HA.out (by simp [copyholdref12_View.l0])
  | succ k1 =>
   (have H := HA.out; clear HA)
   simp only [copyholdref12_View.l0] at H
   by_cases c9 : x6_1 < (l0_0.length : Int)
   ·rw [if_pos c9] at H
    have c9b0 : decide (x6_1 < (l0_0.length : Int)) = true := decide_eq_true c9
    clear c9
    by_cases c10 : 0 ≤ x6_1
    ·rw [if_pos c10] at H
     have c10b0 : decide (0 ≤ x6_1) = true := decide_eq_true c10
     clear c10
     replace H := zqn H
     obtain ⟨t213, A110, H⟩ := H
     replace H : (if t213 ≥ 0 then (if 0 ≤ t213 then (if t213 < (((rd_T55 l0_0 x6_1).f1).length : Int) then (if ((rd_T58 ((rd_T55 l0_0 x6_1).f1) t213).f1 = true) then (copyholdref12_View.l0 k1 a1 (wrap64 (x6_1 + 1)) l0_0 l0_1 a0_2 x212000_1 1) else (if x212000_1.length < 2199023255552 then (copyholdref12_View.l0 k1 a1 (wrap64 (x6_1 + 1)) l0_0 l0_1 a0_2 (x212000_1 ++ [(⟨(rd_T58 ((rd_T55 l0_0 x6_1).f1) t213).f2.f0, (rd_T58 ((rd_T55 l0_0 x6_1).f1) t213).f2.f1, (rd_T58 ((rd_T55 l0_0 x6_1).f1) t213).f2.f2, (rd_T58 ((rd_T55 l0_0 x6_1).f1) t213).f2.f3, (rd_T58 ((rd_T55 l0_0 x6_1).f1) t213).f2.f4⟩ : S38)]) 1) else (none))) else (none)) else (none)) else (copyholdref12_View.l0 k1 a1 (wrap64 (x6_1 + 1)) l0_0 l0_1 a0_2 x212000_1 1)) = some (r1, r2) := H
     have A11 := zqj A110
     clear A110
     by_cases c12 : t213 ≥ 0
     ·rw [if_pos c12] at H
      have c12b0 : decide (0 ≤ t213) = true := decide_eq_true c12
      clear c12
      by_cases c13 : 0 ≤ t213
      ·rw [if_pos c13] at H
       have c13b0 : decide (0 ≤ t213) = true := decide_eq_true c13
       clear c13
       by_cases c14 : t213 < (((rd_T55 l0_0 x6_1).f1).length : Int)
       ·rw [if_pos c14] at H
        have c14b0 : decide (t213 < (((rd_T55 l0_0 x6_1).f1).length : Int)) = true := decide_eq_true c14
        clear c14
        obtain ⟨bq15, hbq15⟩ : ∃ b_ : Bool, b_ = ((rd_T58 ((rd_T55 l0_0 x6_1).f1) t213).f1) := ⟨_, rfl⟩
        replace H : (if (bq15 = true) then (copyholdref12_View.l0 k1 a1 (wrap64 (x6_1 + 1)) l0_0 l0_1 a0_2 x212000_1 1) else (if x212000_1.length < 2199023255552 then (copyholdref12_View.l0 k1 a1 (wrap64 (x6_1 + 1)) l0_0 l0_1 a0_2 (x212000_1 ++ [(⟨(rd_T58 ((rd_T55 l0_0 x6_1).f1) t213).f2.f0, (rd_T58 ((rd_T55 l0_0 x6_1).f1) t213).f2.f1, (rd_T58 ((rd_T55 l0_0 x6_1).f1) t213).f2.f2, (rd_T58 ((rd_T55 l0_0 x6_1).f1) t213).f2.f3, (rd_T58 ((rd_T55 l0_0 x6_1).f1) t213).f2.f4⟩ : S38)]) 1) else (none))) = some (r1, r2) := by rw [← hbq15] at H; exact H
        have Nbq15 := zqj hbq15
        clear hbq15
        by_cases c16 : (bq15 = true)
        ·subst c16
         have H1 : (copyholdref12_View.l0 k1 a1 (wrap64 (x6_1 + 1)) l0_0 l0_1 a0_2 x212000_1 1) = some (r1, r2) := by rw [if_pos rfl] at H; exact H
         clear H
         have H := H1
         clear H1
         have H' := zqj H
         clear H
         have hnb17 := NB209_210.out
         have hnc17 := NB210_209.out
         have hnb18 := NB209_211.out
         have hnc18 := NB211_209.out
         obtain ⟨hcz19_0, hcz19_1, hcz19_2⟩ := zc3 BK209.out
         (obtain ⟨hfz19_0, hfz19_1, hfz19_2⟩ := zf3 BK209.out)
         have p212 : 0 ≤ (x6_1 : Int) := zqh zrs
         have q212 : x6_1 < (l0_0.length : Int) := zqh zrs
         obtain ⟨ad212, A212_1, c212_1, e212, hx212_0, hx212_1, hl212_1, hi212_1⟩ := at_T55 (Kd.V_reads' HO_210000.out).2.2 x6_1 p212 q212
         cases e212
         obtain ⟨ce212, hce212, hMe212, hcc212⟩ := Kd.V_get HO_210000.out z55 x6_1 p212 (by first | exact q212 | exact zqh zrs | (have e_ := (Kd.V_reads' HO_210000.out).1; omega))
         obtain ⟨ua212_1, uc212_1, rfl, ul212_1, ge212_1⟩ := k55_openF hMe212
         have hv212_1 := hcc212 1 _ rfl
         rw [add_field _ _ 1 (by omega)] at hv212_1
         replace hv212_1 := Option.some.inj (hv212_1.symm.trans hx212_1)
         injection hv212_1 with hva_ hvn_ hvc_
         rw [hva_] at ge212_1
         rw [hvc_] at ul212_1
         have HL212_1 := zqj (show Kd.V k58 58 _ w.heap.size _ _ ((rd_T55 l0_0 x6_1).f1) from Kd.V_mk ul212_1 ge212_1)
         (clear hva_ hvn_ hvc_ ge212_1 ul212_1; clear hcc212 hce212)
         have HR212_1 := zqj hi212_1
         have HC212_1 := zqj hl212_1
         clear hi212_1 hl212_1
         replace p212 := eq_true p212
         replace q212 := eq_true q212
         go_wp2_with (first | ((with_reducible refine gate_callee (f := 42) rfl ?_); refine goesL_ (some 23) rfl rfl Try.func42 (by kernel_rfl) rfl #[.agg #[.int .i64 ((rd_T55 l0_0 x6_1).f0), .slice A212_1 ((rd_T55 l0_0 x6_1).f1).length c212_1], .int .i64 a1] rfl zra ?_; (with_reducible refine (copyholdref12_seen.calls k1 ((rd_T55 l0_0 x6_1).f0) _ _ ((rd_T55 l0_0 x6_1).f1) a1 t213 _ ?side1 ?side2 A11.out).mono ?_); (case side1 => repeat (first | exact (by repeat (first | (with_reducible exact HR212_1.out) | (with_reducible refine Kd.C_alloc ?_ _) | (with_reducible refine Kd.C_drewN ?_ _) | (with_reducible refine Kd.C_drew ?_) | exact HR212_1.out | exact (Kd.V_reads' HL212_1.out).2.2)) | (with_reducible refine Kd.C_alloc ?_ _) | (with_reducible refine Kd.C_drewN ?_ _) | (with_reducible refine Kd.C_drew ?_))); (case side2 => exact HC212_1.out); rintro e w20 ⟨rfl, hb⟩; refine ⟨_, rfl, ?_⟩; have n0_ := zqj (Kd.V_below (zrV HO_210000.out) hb); have n1_ := zqj (Kd.N_below (zrN HO_212000.out) hb); have n2_ := zqj (Kd.V_below (zrV HL212_1.out) hb); have n3_ := zqj (blk_below (g := gb209) (o := .cells #[.slice (some ad212) l0_0.length c0_0, .slice A0_1 l0_1.length c0_1, .int .i64 a0_2] 25 (0, 0)) (zrb BK209.out) hb); have n4_ := zqj (blk_below (g := gb210) (o := .cells #[.slice none 0 0, .int .i64 0] 34 (0, 0)) (zrb BK210.out) hb); have n5_ := zqj (blk_below (g := gb211) (o := .cells #[u212000, .int .i64 1] 34 (0, 0)) (zrb BK211.out) hb); have n6_ := zqj (Kd.C_below (by repeat (first | (with_reducible exact HR212_1.out) | (with_reducible refine Kd.C_alloc ?_ _) | (with_reducible refine Kd.C_drewN ?_ _) | (with_reducible refine Kd.C_drew ?_) | exact HR212_1.out | exact (Kd.V_reads' HL212_1.out).2.2)) hb); have n7_ := zqj (below_step (zrd3 HB.out GE209.out GE210.out GE211.out) hb); clear HO_210000; clear HO_212000; clear HL212_1; clear BK209; clear BK210; clear BK211; clear HR212_1; clear HB; have HO_210000 := n0_; have HO_212000 := n1_; have HL212_1 := n2_; have BK209 := n3_; have BK210 := n4_; have BK211 := n5_; have HR212_1 := n6_; have HB := n7_; clear n0_ n1_ n2_ n3_ n4_ n5_ n6_ n7_; (try clear hb); (try clear hb2); (try clear hk); (try clear hi); obtain ⟨hcz21_0, hcz21_1, hcz21_2⟩ := zc3 BK209.out; obtain ⟨hfz21_0, hfz21_1, hfz21_2⟩ := zf3 BK209.out; have p214 : 0 ≤ (x6_1 : Int) := zqh zrs; have q214 : x6_1 < (l0_0.length : Int) := zqh zrs; obtain ⟨ad214, A214_1, c214_1, e214, hx214_0, hx214_1, hl214_1, hi214_1⟩ := at_T55 (Kd.V_reads' HO_210000.out).2.2 x6_1 p214 q214; obtain rfl : ad212 = ad214 := (by injection e214); obtain ⟨ce214, hce214, hMe214, hcc214⟩ := Kd.V_get HO_210000.out z55 x6_1 p214 (by first | exact q214 | exact zqh zrs | (have e_ := (Kd.V_reads' HO_210000.out).1; omega)); obtain ⟨ua214_1, uc214_1, rfl, ul214_1, ge214_1⟩ := k55_openF hMe214; have hv214_1 := hcc214 1 _ rfl; rw [add_field _ _ 1 (by omega)] at hv214_1; replace hv214_1 := Option.some.inj (hv214_1.symm.trans hx214_1); injection hv214_1 with hva_ hvn_ hvc_; rw [hva_] at ge214_1; rw [hvc_] at ul214_1; have HL214_1 := zqj (show Kd.V k58 58 _ w.heap.size _ _ ((rd_T55 l0_0 x6_1).f1) from Kd.V_mk ul214_1 ge214_1); clear hva_ hvn_ hvc_ ge214_1 ul214_1; clear hcc214 hce214; have HR214_1 := zqj hi214_1; have HC214_1 := zqj hl214_1; clear hi214_1 hl214_1; replace p214 := eq_true p214; replace q214 := eq_true q214; have p215 : 0 ≤ (t213 : Int) := zqh zrs; have q215 : t213 < (((rd_T55 l0_0 x6_1).f1).length : Int) := zqh zrs; obtain ⟨ad215, A215_6, c215_6, e215, hx215_0, hx215_1, hx215_2, hx215_3, hx215_4, hx215_5, hx215_6, hl215_6, hi215_6⟩ := at_T58 (by repeat (first | (with_reducible exact HR214_1.out) | (with_reducible refine Kd.C_alloc ?_ _) | (with_reducible refine Kd.C_drewN ?_ _) | (with_reducible refine Kd.C_drew ?_) | exact HR214_1.out | exact (Kd.V_reads' HL214_1.out).2.2)) t213 p215 q215; (try rw [← Nbq15.out] at hx215_1); cases e215; obtain ⟨ce215, hce215, hMe215, hcc215⟩ := Kd.V_get HL214_1.out z58 t213 p215 (by first | exact q215 | exact zqh zrs | (have e_ := (Kd.V_reads' HL214_1.out).1; omega)); obtain ⟨ua215_6, uc215_6, rfl, ul215_6, ge215_6⟩ := k58_openF hMe215; have hv215_6 := hcc215 6 _ rfl; rw [add_field _ _ 6 (by omega)] at hv215_6; replace hv215_6 := Option.some.inj (hv215_6.symm.trans hx215_6); injection hv215_6 with hva_ hvn_ hvc_; rw [hva_] at ge215_6; rw [hvc_] at ul215_6; have HL215_6 := zqj (show Kd.V k91 91 _ w.heap.size _ _ ((rd_T58 ((rd_T55 l0_0 x6_1).f1) t213).f2.f4) from Kd.V_mk ul215_6 ge215_6); clear hva_ hvn_ hvc_ ge215_6 ul215_6; clear hcc215 hce215; have HR215_6 := zqj hi215_6; have HC215_6 := zqj hl215_6; clear hi215_6 hl215_6; replace p215 := eq_true p215; replace q215 := eq_true q215))
         go_roundg k1
         case measure => have := HK1.out; omega
         case rel => exact ⟨(wrap64 (x6_1 + 1)), (x212000_1), (u212000), zrt, H', ⟨by have := HK1.out; omega⟩, ⟨by (with_reducible repeat (first | apply Kd.V_alloc | apply Kd.V_drewN | apply Kd.V_drew)); exact HO_210000.out⟩, ⟨by (with_reducible repeat (first | apply Kd.N_alloc | apply Kd.N_drewN | apply Kd.N_drew)); exact HO_212000.out⟩, ⟨by (with_reducible repeat (first | refine zqa ?_ _ | refine zqb ?_ | refine zqc ?_ _)); exact BK209.out⟩, ⟨by (with_reducible repeat (first | refine zqa ?_ _ | refine zqb ?_ | refine zqc ?_ _)); exact BK210.out⟩, ⟨by (with_reducible repeat (first | refine zqa ?_ _ | refine zqb ?_ | refine zqc ?_ _)); exact BK211.out⟩, ⟨by repeat (first | (with_reducible first | exact HB.out | apply zqg | apply zqe | apply zqf | refine zqd ?_ GE209.out | refine zqd ?_ GE210.out | refine zqd ?_ GE211.out) | exact HB.out)⟩⟩
        ·replace c16 := Bool.eq_false_iff.mpr c16
         subst c16
         have H1 : (if x212000_1.length < 2199023255552 then (copyholdref12_View.l0 k1 a1 (wrap64 (x6_1 + 1)) l0_0 l0_1 a0_2 (x212000_1 ++ [(⟨(rd_T58 ((rd_T55 l0_0 x6_1).f1) t213).f2.f0, (rd_T58 ((rd_T55 l0_0 x6_1).f1) t213).f2.f1, (rd_T58 ((rd_T55 l0_0 x6_1).f1) t213).f2.f2, (rd_T58 ((rd_T55 l0_0 x6_1).f1) t213).f2.f3, (rd_T58 ((rd_T55 l0_0 x6_1).f1) t213).f2.f4⟩ : S38)]) 1) else (none)) = some (r1, r2) := by rw [if_neg (show ¬ (false = true) by decide)] at H; exact H
         clear H
         have H := H1
         clear H1
         by_cases c22 : x212000_1.length < 2199023255552
         ·rw [if_pos c22] at H
          have LMc22 := zqj c22
          clear c22
          obtain ⟨y218, hy218⟩ : ∃ y_ : List (S38), y_ = (x212000_1 ++ [(⟨(rd_T58 ((rd_T55 l0_0 x6_1).f1) t213).f2.f0, (rd_T58 ((rd_T55 l0_0 x6_1).f1) t213).f2.f1, (rd_T58 ((rd_T55 l0_0 x6_1).f1) t213).f2.f2, (rd_T58 ((rd_T55 l0_0 x6_1).f1) t213).f2.f3, (rd_T58 ((rd_T55 l0_0 x6_1).f1) t213).f2.f4⟩ : S38)]) := ⟨_, rfl⟩
          replace H : (copyholdref12_View.l0 k1 a1 (wrap64 (x6_1 + 1)) l0_0 l0_1 a0_2 y218 1) = some (r1, r2) := by first | (rw [hy218]; with_reducible exact H) | (have H2_ := (Option.bind_some _ _).symm.trans H; rw [hy218]; with_reducible exact H2_) | (have H2_ := (Option.bind_some _ _).symm.trans H; with_reducible exact H2_) | with_reducible exact H | (rw [hy218]; exact H) | exact H
          have Ny218 := zqj hy218
          clear hy218
          have H' := zqj H
          clear H
          have hnb23 := NB209_210.out
          have hnc23 := NB210_209.out
          have hnb24 := NB209_211.out
          have hnc24 := NB211_209.out
          obtain ⟨hcz25_0, hcz25_1, hcz25_2⟩ := zc3 BK209.out
          (obtain ⟨hfz25_0, hfz25_1, hfz25_2⟩ := zf3 BK209.out)
          have p212 : 0 ≤ (x6_1 : Int) := zqh zrs
          have q212 : x6_1 < (l0_0.length : Int) := zqh zrs
          obtain ⟨ad212, A212_1, c212_1, e212, hx212_0, hx212_1, hl212_1, hi212_1⟩ := at_T55 (Kd.V_reads' HO_210000.out).2.2 x6_1 p212 q212
          cases e212
          obtain ⟨ce212, hce212, hMe212, hcc212⟩ := Kd.V_get HO_210000.out z55 x6_1 p212 (by first | exact q212 | exact zqh zrs | (have e_ := (Kd.V_reads' HO_210000.out).1; omega))
          obtain ⟨ua212_1, uc212_1, rfl, ul212_1, ge212_1⟩ := k55_openF hMe212
          have hv212_1 := hcc212 1 _ rfl
          rw [add_field _ _ 1 (by omega)] at hv212_1
          replace hv212_1 := Option.some.inj (hv212_1.symm.trans hx212_1)
          injection hv212_1 with hva_ hvn_ hvc_
          rw [hva_] at ge212_1
          rw [hvc_] at ul212_1
          have HL212_1 := zqj (show Kd.V k58 58 _ w.heap.size _ _ ((rd_T55 l0_0 x6_1).f1) from Kd.V_mk ul212_1 ge212_1)
          (clear hva_ hvn_ hvc_ ge212_1 ul212_1; clear hcc212 hce212)
          have HR212_1 := zqj hi212_1
          have HC212_1 := zqj hl212_1
          clear hi212_1 hl212_1
          replace p212 := eq_true p212
          replace q212 := eq_true q212
          try go_wp2_with (first | ((with_reducible refine gate_callee (f := 42) rfl ?_); refine goesL_ (some 23) rfl rfl Try.func42 (by kernel_rfl) rfl #[.agg #[.int .i64 ((rd_T55 l0_0 x6_1).f0), .slice A212_1 ((rd_T55 l0_0 x6_1).f1).length c212_1], .int .i64 a1] rfl zra ?_; (with_reducible refine (copyholdref12_seen.calls k1 ((rd_T55 l0_0 x6_1).f0) _ _ ((rd_T55 l0_0 x6_1).f1) a1 t213 _ ?side1 ?side2 A11.out).mono ?_); (case side1 => repeat (first | exact (by repeat (first | (with_reducible exact HR212_1.out) | (with_reducible refine Kd.C_alloc ?_ _) | (with_reducible refine Kd.C_drewN ?_ _) | (with_reducible refine Kd.C_drew ?_) | exact HR212_1.out | exact (Kd.V_reads' HL212_1.out).2.2)) | (with_reducible refine Kd.C_alloc ?_ _) | (with_reducible refine Kd.C_drewN ?_ _) | (with_reducible refine Kd.C_drew ?_))); (case side2 => exact HC212_1.out); rintro e w26 ⟨rfl, hb⟩; refine ⟨_, rfl, ?_⟩; have n0_ := zqj (Kd.V_below (zrV HO_210000.out) hb); have n1_ := zqj (Kd.N_below (zrN HO_212000.out) hb); have n2_ := zqj (Kd.V_below (zrV HL212_1.out) hb); have n3_ := zqj (blk_below (g := gb209) (o := .cells #[.slice (some ad212) l0_0.length c0_0, .slice A0_1 l0_1.length c0_1, .int .i64 a0_2] 25 (0, 0)) (zrb BK209.out) hb); have n4_ := zqj (blk_below (g := gb210) (o := .cells #[.slice none 0 0, .int .i64 0] 34 (0, 0)) (zrb BK210.out) hb); have n5_ := zqj (blk_below (g := gb211) (o := .cells #[u212000, .int .i64 1] 34 (0, 0)) (zrb BK211.out) hb); have n6_ := zqj (Kd.C_below (by repeat (first | (with_reducible exact HR212_1.out) | (with_reducible refine Kd.C_alloc ?_ _) | (with_reducible refine Kd.C_drewN ?_ _) | (with_reducible refine Kd.C_drew ?_) | exact HR212_1.out | exact (Kd.V_reads' HL212_1.out).2.2)) hb); have n7_ := zqj (below_step (zrd3 HB.out GE209.out GE210.out GE211.out) hb); clear HO_210000; clear HO_212000; clear HL212_1; clear BK209; clear BK210; clear BK211; clear HR212_1; clear HB; have HO_210000 := n0_; have HO_212000 := n1_; have HL212_1 := n2_; have BK209 := n3_; have BK210 := n4_; have BK211 := n5_; have HR212_1 := n6_; have HB := n7_; clear n0_ n1_ n2_ n3_ n4_ n5_ n6_ n7_; (try clear hb); (try clear hb2); (try clear hk); (try clear hi); obtain ⟨hcz27_0, hcz27_1, hcz27_2⟩ := zc3 BK209.out; obtain ⟨hfz27_0, hfz27_1, hfz27_2⟩ := zf3 BK209.out; have p214 : 0 ≤ (x6_1 : Int) := zqh zrs; have q214 : x6_1 < (l0_0.length : Int) := zqh zrs; obtain ⟨ad214, A214_1, c214_1, e214, hx214_0, hx214_1, hl214_1, hi214_1⟩ := at_T55 (Kd.V_reads' HO_210000.out).2.2 x6_1 p214 q214; obtain rfl : ad212 = ad214 := (by injection e214); obtain ⟨ce214, hce214, hMe214, hcc214⟩ := Kd.V_get HO_210000.out z55 x6_1 p214 (by first | exact q214 | exact zqh zrs | (have e_ := (Kd.V_reads' HO_210000.out).1; omega)); obtain ⟨ua214_1, uc214_1, rfl, ul214_1, ge214_1⟩ := k55_openF hMe214; have hv214_1 := hcc214 1 _ rfl; rw [add_field _ _ 1 (by omega)] at hv214_1; replace hv214_1 := Option.some.inj (hv214_1.symm.trans hx214_1); injection hv214_1 with hva_ hvn_ hvc_; rw [hva_] at ge214_1; rw [hvc_] at ul214_1; have HL214_1 := zqj (show Kd.V k58 58 _ w.heap.size _ _ ((rd_T55 l0_0 x6_1).f1) from Kd.V_mk ul214_1 ge214_1); clear hva_ hvn_ hvc_ ge214_1 ul214_1; clear hcc214 hce214; have HR214_1 := zqj hi214_1; have HC214_1 := zqj hl214_1; clear hi214_1 hl214_1; replace p214 := eq_true p214; replace q214 := eq_true q214; have p215 : 0 ≤ (t213 : Int) := zqh zrs; have q215 : t213 < (((rd_T55 l0_0 x6_1).f1).length : Int) := zqh zrs; obtain ⟨ad215, A215_6, c215_6, e215, hx215_0, hx215_1, hx215_2, hx215_3, hx215_4, hx215_5, hx215_6, hl215_6, hi215_6⟩ := at_T58 (by repeat (first | (with_reducible exact HR214_1.out) | (with_reducible refine Kd.C_alloc ?_ _) | (with_reducible refine Kd.C_drewN ?_ _) | (with_reducible refine Kd.C_drew ?_) | exact HR214_1.out | exact (Kd.V_reads' HL214_1.out).2.2)) t213 p215 q215; (try rw [← Nbq15.out] at hx215_1); cases e215; obtain ⟨ce215, hce215, hMe215, hcc215⟩ := Kd.V_get HL214_1.out z58 t213 p215 (by first | exact q215 | exact zqh zrs | (have e_ := (Kd.V_reads' HL214_1.out).1; omega)); obtain ⟨ua215_6, uc215_6, rfl, ul215_6, ge215_6⟩ := k58_openF hMe215; have hv215_6 := hcc215 6 _ rfl; rw [add_field _ _ 6 (by omega)] at hv215_6; replace hv215_6 := Option.some.inj (hv215_6.symm.trans hx215_6); injection hv215_6 with hva_ hvn_ hvc_; rw [hva_] at ge215_6; rw [hvc_] at ul215_6; have HL215_6 := zqj (show Kd.V k91 91 _ w.heap.size _ _ ((rd_T58 ((rd_T55 l0_0 x6_1).f1) t213).f2.f4) from Kd.V_mk ul215_6 ge215_6); clear hva_ hvn_ hvc_ ge215_6 ul215_6; clear hcc215 hce215; have HR215_6 := zqj hi215_6; have HC215_6 := zqj hl215_6; clear hi215_6 hl215_6; replace p215 := eq_true p215; replace q215 := eq_true q215))
          replace HO_210000 := zqj (Kd.V_drew HO_210000.out); replace HO_212000 := zqj (Kd.N_drew HO_212000.out); replace HL212_1 := zqj (Kd.V_drew HL212_1.out); replace HL214_1 := zqj (Kd.V_drew HL214_1.out); replace HL215_6 := zqj (Kd.V_drew HL215_6.out); replace BK209 := zqj (zqb BK209.out); replace BK210 := zqj (zqb BK210.out); replace BK211 := zqj (zqb BK211.out); replace HR212_1 := zqj (Kd.C_drew HR212_1.out); replace HR214_1 := zqj (Kd.C_drew HR214_1.out); replace HR215_6 := zqj (Kd.C_drew HR215_6.out); replace HB := zqj (zqf HB.out)
          have p216 : 0 ≤ (x6_1 : Int) := zqh zrs
          have q216 : x6_1 < (l0_0.length : Int) := zqh zrs
          obtain ⟨ad216, A216_1, c216_1, e216, hx216_0, hx216_1, hl216_1, hi216_1⟩ := at_T55 (Kd.V_reads' HO_210000.out).2.2 x6_1 p216 q216
          obtain rfl : ad212 = ad216 := (by injection e216)
          obtain ⟨ce216, hce216, hMe216, hcc216⟩ := Kd.V_get HO_210000.out z55 x6_1 p216 (by first | exact q216 | exact zqh zrs | (have e_ := (Kd.V_reads' HO_210000.out).1; omega))
          obtain ⟨ua216_1, uc216_1, rfl, ul216_1, ge216_1⟩ := k55_openF hMe216
          have hv216_1 := hcc216 1 _ rfl
          rw [add_field _ _ 1 (by omega)] at hv216_1
          replace hv216_1 := Option.some.inj (hv216_1.symm.trans hx216_1)
          injection hv216_1 with hva_ hvn_ hvc_
          rw [hva_] at ge216_1
          rw [hvc_] at ul216_1
          have HL216_1 := zqj (show Kd.V k58 58 _ w.heap.size _ _ ((rd_T55 l0_0 x6_1).f1) from Kd.V_mk ul216_1 ge216_1)
          (clear hva_ hvn_ hvc_ ge216_1 ul216_1; clear hcc216 hce216)
          have HR216_1 := zqj hi216_1
          have HC216_1 := zqj hl216_1
          clear hi216_1 hl216_1
          replace p216 := eq_true p216
          replace q216 := eq_true q216
          have p217 : 0 ≤ (t213 : Int) := zqh zrs
          have q217 : t213 < (((rd_T55 l0_0 x6_1).f1).length : Int) := zqh zrs
          obtain ⟨ad217, A217_6, c217_6, e217, hx217_0, hx217_1, hx217_2, hx217_3, hx217_4, hx217_5, hx217_6, hl217_6, hi217_6⟩ := at_T58 (by repeat (first | (with_reducible exact HR216_1.out) | (with_reducible refine Kd.C_alloc ?_ _) | (with_reducible refine Kd.C_drewN ?_ _) | (with_reducible refine Kd.C_drew ?_) | exact HR216_1.out | exact (Kd.V_reads' HL216_1.out).2.2)) t213 p217 q217
          (try rw [← Nbq15.out] at hx217_1)
          cases e217
          obtain ⟨ce217, hce217, hMe217, hcc217⟩ := Kd.V_get HL216_1.out z58 t213 p217 (by first | exact q217 | exact zqh zrs | (have e_ := (Kd.V_reads' HL216_1.out).1; omega))
          obtain ⟨ua217_6, uc217_6, rfl, ul217_6, ge217_6⟩ := k58_openF hMe217
          have hv217_6 := hcc217 6 _ rfl
          rw [add_field _ _ 6 (by omega)] at hv217_6
          replace hv217_6 := Option.some.inj (hv217_6.symm.trans hx217_6)
          injection hv217_6 with hva_ hvn_ hvc_
          rw [hva_] at ge217_6
          rw [hvc_] at ul217_6
          have HL217_6 := zqj (show Kd.V k91 91 _ w.heap.size _ _ ((rd_T58 ((rd_T55 l0_0 x6_1).f1) t213).f2.f4) from Kd.V_mk ul217_6 ge217_6)
          (clear hva_ hvn_ hvc_ ge217_6 ul217_6; clear hcc217 hce217)
          have HR217_6 := zqj hi217_6
          have HC217_6 := zqj hl217_6
          clear hi217_6 hl217_6
          replace p217 := eq_true p217
          replace q217 := eq_true q217
          refine start_ (n := 16) (S := fun w' => w'.cell? ⟨gb211, 0, none⟩ = some (u212000) ∧ w'.cell? ⟨gb211, 1, none⟩ = some (.int .i64 1) ∧ w'.cell? ⟨gb209, 0, none⟩ = some (.slice (some ad212) l0_0.length c0_0) ∧ w'.cell? ⟨gb209, 1, none⟩ = some (.slice A0_1 l0_1.length c0_1) ∧ w'.cell? ⟨gb209, 2, none⟩ = some (.int .i64 a0_2) ∧ w'.cell? (ad212.add ((x6_1).toNat * 2)) = some (.int .i64 ((rd_T55 l0_0 x6_1).f0)) ∧ w'.cell? ⟨(ad212.add ((x6_1).toNat * 2)).block, (ad212.add ((x6_1).toNat * 2)).off + 1, none⟩ = some (.slice (some ad217) ((rd_T55 l0_0 x6_1).f1).length c216_1) ∧ w'.cell? (ad217.add ((t213).toNat * 7)) = some (.int .i64 ((rd_T58 ((rd_T55 l0_0 x6_1).f1) t213).f0)) ∧ w'.cell? ⟨(ad217.add ((t213).toNat * 7)).block, (ad217.add ((t213).toNat * 7)).off + 1, none⟩ = some (.bool (false)) ∧ w'.cell? ⟨(ad217.add ((t213).toNat * 7)).block, (ad217.add ((t213).toNat * 7)).off + 2, none⟩ = some (.int .i64 ((rd_T58 ((rd_T55 l0_0 x6_1).f1) t213).f2.f0)) ∧ w'.cell? ⟨(ad217.add ((t213).toNat * 7)).block, (ad217.add ((t213).toNat * 7)).off + 3, none⟩ = some (.int .i64 ((rd_T58 ((rd_T55 l0_0 x6_1).f1) t213).f2.f1)) ∧ w'.cell? ⟨(ad217.add ((t213).toNat * 7)).block, (ad217.add ((t213).toNat * 7)).off + 4, none⟩ = some (.int .i64 ((rd_T58 ((rd_T55 l0_0 x6_1).f1) t213).f2.f2)) ∧ w'.cell? ⟨(ad217.add ((t213).toNat * 7)).block, (ad217.add ((t213).toNat * 7)).off + 5, none⟩ = some (.string ((rd_T58 ((rd_T55 l0_0 x6_1).f1) t213).f2.f3)) ∧ w'.cell? ⟨(ad217.add ((t213).toNat * 7)).block, (ad217.add ((t213).toNat * 7)).off + 6, none⟩ = some (.slice A217_6 ((rd_T58 ((rd_T55 l0_0 x6_1).f1) t213).f2.f4).length c217_6)) (ds := [13, 15]) #[false, false, false, false, false, false, false, false, false, false, false, false, false, false, false, false] (by kernel_rfl) rfl rfl ⟨(blk_cell BK211.out 0).trans rfl, (blk_cell BK211.out 1).trans rfl, (blk_cell BK209.out 0).trans rfl, (blk_cell BK209.out 1).trans rfl, (blk_cell BK209.out 2).trans rfl, hx216_0, hx216_1, hx217_0, hx217_1, hx217_2, hx217_3, hx217_4, hx217_5, hx217_6⟩ (fun hHeld => ?_); refine with_tabW copyholdref12_View.tab7 copyholdref12_View.bits7 (fun HT_ HW_ => ?_)
          generalize w26.drew = w28 at HO_210000 HO_212000 HL212_1 HL214_1 HL215_6 BK209 BK210 BK211 HR212_1 HR214_1 HR215_6 HB HL216_1 HL217_6 HR216_1 HR217_6 hx216_0 hx216_1 hx217_0 hx217_1 hx217_2 hx217_3 hx217_4 hx217_5 hx217_6 hHeld ⊢
          refine zp 0 39 (zb 16 1) HT_.out ?_
          refine zp 2 41 (zb 16 5) HT_.out ?_
          refine zp 4 43 (zb 16 21) HT_.out ?_
          refine zp 8 47 (zb 16 277) HT_.out ?_
          refine zt 1 40 (zb 16 279) HT_.out HW_.out hHeld ?_
          refine zt 3 42 (zb 16 287) HT_.out HW_.out hHeld ?_
          refine zp 5 44 (zb 16 319) HT_.out ?_
          refine zp 6 45 (zb 16 383) HT_.out ?_
          refine zt 7 46 (zb 16 511) HT_.out HW_.out hHeld ?_
          refine zp 9 48 (zb 16 1023) HT_.out ?_
          refine zp 10 49 (zb 16 2047) HT_.out ?_
          refine zt 11 50 (zb 16 4095) HT_.out HW_.out hHeld ?_
          refine one_ (i := 12) (N := some 51) (zb 16 8191) rfl rfl (one_of HT_.out (by kernel_rfl)) (by decide) (fun K hK => ?_)
          refine value_ (w1 := ?_) (v := ?_) (by rfl) rfl ?_ ?_
          rotate_left 2
          ·go_simp
           constructor
           ·rfl
           ·rfl
          refine hK.out _ _ ⟨(blk_cell (zqc BK211.out _) 0).trans rfl, (blk_cell (zqc BK211.out _) 1).trans rfl, (blk_cell (zqc BK209.out _) 0).trans rfl, (blk_cell (zqc BK209.out _) 1).trans rfl, (blk_cell (zqc BK209.out _) 2).trans rfl, (World.cell?_alloc_lt _ _ _ (World.block_lt_of_cell? _ _ (hHeld.2.2.2.2.2.1))).trans (hHeld.2.2.2.2.2.1), (World.cell?_alloc_lt _ _ _ (World.block_lt_of_cell? _ _ (hHeld.2.2.2.2.2.2.1))).trans (hHeld.2.2.2.2.2.2.1), (World.cell?_alloc_lt _ _ _ (World.block_lt_of_cell? _ _ (hHeld.2.2.2.2.2.2.2.1))).trans (hHeld.2.2.2.2.2.2.2.1), (World.cell?_alloc_lt _ _ _ (World.block_lt_of_cell? _ _ (hHeld.2.2.2.2.2.2.2.2.1))).trans (hHeld.2.2.2.2.2.2.2.2.1), (World.cell?_alloc_lt _ _ _ (World.block_lt_of_cell? _ _ (hHeld.2.2.2.2.2.2.2.2.2.1))).trans (hHeld.2.2.2.2.2.2.2.2.2.1), (World.cell?_alloc_lt _ _ _ (World.block_lt_of_cell? _ _ (hHeld.2.2.2.2.2.2.2.2.2.2.1))).trans (hHeld.2.2.2.2.2.2.2.2.2.2.1), (World.cell?_alloc_lt _ _ _ (World.block_lt_of_cell? _ _ (hHeld.2.2.2.2.2.2.2.2.2.2.2.1))).trans (hHeld.2.2.2.2.2.2.2.2.2.2.2.1), (World.cell?_alloc_lt _ _ _ (World.block_lt_of_cell? _ _ (hHeld.2.2.2.2.2.2.2.2.2.2.2.2.1))).trans (hHeld.2.2.2.2.2.2.2.2.2.2.2.2.1), (World.cell?_alloc_lt _ _ _ (World.block_lt_of_cell? _ _ (hHeld.2.2.2.2.2.2.2.2.2.2.2.2.2))).trans (hHeld.2.2.2.2.2.2.2.2.2.2.2.2.2)⟩ (fun hHeld => ?_)
          clear hK K
          refine norm_ (a' := ?_) ?_ ?_
          rotate_left
          ·show Act.put _ (some 51) _ = _
           simp only [Act.put, zqk, zql, zqm, i64_w, i32_w]
           rfl
          refine last_ (i := 13) (N := some 52) (zb 16 16383) rfl rfl (one_of HT_.out (by kernel_rfl)) (by decide) (fun K hK => ?_)
          refine Kd.N_append_step k38 (w0 := w) w.heap.size (by rfl) (.tmp 40) (.tmp 51) 32 38 (.agg #[(.int .i64 0), (.int .i64 0), (.int .i64 0), (.string ⟨#[]⟩), (.slice none 0 0)]) 64 rfl Try.underlying32 info38 rfl (by decide) (by omega) u212000 x212000_1 (⟨(rd_T58 ((rd_T55 l0_0 x6_1).f1) t213).f2.f0, (rd_T58 ((rd_T55 l0_0 x6_1).f1) t213).f2.f1, (rd_T58 ((rd_T55 l0_0 x6_1).f1) t213).f2.f2, (rd_T58 ((rd_T55 l0_0 x6_1).f1) t213).f2.f3, (rd_T58 ((rd_T55 l0_0 x6_1).f1) t213).f2.f4⟩ : S38) [.int .i64 ((rd_T58 ((rd_T55 l0_0 x6_1).f1) t213).f2.f0), .int .i64 ((rd_T58 ((rd_T55 l0_0 x6_1).f1) t213).f2.f1), .int .i64 ((rd_T58 ((rd_T55 l0_0 x6_1).f1) t213).f2.f2), .string ((rd_T58 ((rd_T55 l0_0 x6_1).f1) t213).f2.f3), .slice A217_6 ((rd_T58 ((rd_T55 l0_0 x6_1).f1) t213).f2.f4).length c217_6] (fun k_ => (P0_0_ k_ ∨ w.heap.size ≤ k_) ∧ k_ ≠ gb209 ∧ k_ ≠ gb210 ∧ k_ ≠ gb211) (fun k_ => ((fun k_ => (P0_0_ k_ ∨ w.heap.size ≤ k_) ∧ k_ ≠ gb209 ∧ k_ ≠ gb210 ∧ k_ ≠ gb211)) k_ ∧ some k_ ≠ (u212000 : Value).ownBlock) rfl rfl ?aP (fun _ hk => hk) ?aF ?aO ?aB ?aS ?aL ?_
          (case aP => exact (k38_mkF _ _ (⟨(rd_T58 ((rd_T55 l0_0 x6_1).f1) t213).f2.f0, (rd_T58 ((rd_T55 l0_0 x6_1).f1) t213).f2.f1, (rd_T58 ((rd_T55 l0_0 x6_1).f1) t213).f2.f2, (rd_T58 ((rd_T55 l0_0 x6_1).f1) t213).f2.f3, (rd_T58 ((rd_T55 l0_0 x6_1).f1) t213).f2.f4⟩ : S38) (Kd.V_reads' (Kd.V_mono (ok' := (fun k_ => ((fun k_ => (P0_0_ k_ ∨ w.heap.size ≤ k_) ∧ k_ ≠ gb209 ∧ k_ ≠ gb210 ∧ k_ ≠ gb211)) k_ ∧ some k_ ≠ (u212000 : Value).ownBlock)) (HL217_6.out) (fun k_ hk => ⟨⟨hk.1, ⟨hk.2.2.1, ⟨hk.2.2.2.1, hk.2.2.2.2⟩⟩⟩, hk.2.1⟩))).2.1 (Kd.V_F (Kd.V_mono (ok' := (fun k_ => ((fun k_ => (P0_0_ k_ ∨ w.heap.size ≤ k_) ∧ k_ ≠ gb209 ∧ k_ ≠ gb210 ∧ k_ ≠ gb211)) k_ ∧ some k_ ≠ (u212000 : Value).ownBlock)) (HL217_6.out) (fun k_ hk => ⟨⟨hk.1, ⟨hk.2.2.1, ⟨hk.2.2.2.1, hk.2.2.2.2⟩⟩⟩, hk.2.1⟩)))))
          (case aB => exact (zrd3 HB.out GE209.out GE210.out GE211.out))
          (case aF => exact (fun k_ hk => ⟨(.inr (Nat.le_trans (below_size (zrd3 HB.out GE209.out GE210.out GE211.out)) hk)), Kd.freshB (g := gb209) (o := .cells #[.slice (some ad212) l0_0.length c0_0, .slice A0_1 l0_1.length c0_1, .int .i64 a0_2] 25 (0, 0)) (zrb BK209.out) k_ hk, Kd.freshB (g := gb210) (o := .cells #[.slice none 0 0, .int .i64 0] 34 (0, 0)) (zrb BK210.out) k_ hk, Kd.freshB (g := gb211) (o := .cells #[u212000, .int .i64 1] 34 (0, 0)) (zrb BK211.out) k_ hk⟩))
          (case aO => exact (zrN HO_212000.out))
          (case aS => exact (below_size (zrd3 HB.out GE209.out GE210.out GE211.out)))
          (case aL => have := LMc22.out; omega)
          intro v219 w29 ho hb hg hat
          rw [← Ny218.out] at ho
          have n0_ := zqj (Kd.V_afterv (ok := (fun k_ => (P0_0_ k_ ∨ w.heap.size ≤ k_) ∧ k_ ≠ gb209 ∧ k_ ≠ gb210 ∧ k_ ≠ gb211)) (by (with_reducible repeat (first | apply Kd.V_alloc | apply Kd.V_drewN | apply Kd.V_drew)); exact Kd.V_mono HO_210000.out (fun _ hk => ⟨⟨hk.1, ⟨hk.2.2.1, ⟨hk.2.2.2.1, hk.2.2.2.2⟩⟩⟩, hk.2.1⟩)) hg hat)
          have n1_ := zqj (blk_grown (g := gb209) (o := .cells #[.slice (some ad212) l0_0.length c0_0, .slice A0_1 l0_1.length c0_1, .int .i64 a0_2] 25 (0, 0)) (zrb BK209.out) hg (Kd.N_ne HO_212000.out BK209.out (by decide)))
          have n2_ := zqj (blk_grown (g := gb210) (o := .cells #[.slice none 0 0, .int .i64 0] 34 (0, 0)) (zrb BK210.out) hg (Kd.N_ne HO_212000.out BK210.out (by decide)))
          have n3_ := zqj (blk_grown (g := gb211) (o := .cells #[u212000, .int .i64 1] 34 (0, 0)) (zrb BK211.out) hg (Kd.N_ne HO_212000.out BK211.out (by decide)))
          have n4_ := zqj (Kd.V_afterv (ok := (fun k_ => (P0_0_ k_ ∨ w.heap.size ≤ k_) ∧ k_ ≠ gb209 ∧ k_ ≠ gb210 ∧ k_ ≠ gb211)) (by (with_reducible repeat (first | apply Kd.V_alloc | apply Kd.V_drewN | apply Kd.V_drew)); exact Kd.V_mono HL212_1.out (fun _ hk => ⟨⟨hk.1, ⟨hk.2.2.1, ⟨hk.2.2.2.1, hk.2.2.2.2⟩⟩⟩, hk.2.1⟩)) hg hat)
          have n5_ := zqj (Kd.V_afterv (ok := (fun k_ => (P0_0_ k_ ∨ w.heap.size ≤ k_) ∧ k_ ≠ gb209 ∧ k_ ≠ gb210 ∧ k_ ≠ gb211)) (by (with_reducible repeat (first | apply Kd.V_alloc | apply Kd.V_drewN | apply Kd.V_drew)); exact Kd.V_mono HL214_1.out (fun _ hk => ⟨⟨hk.1, ⟨hk.2.2.1, ⟨hk.2.2.2.1, hk.2.2.2.2⟩⟩⟩, hk.2.1⟩)) hg hat)
          have n6_ := zqj (Kd.V_afterv (ok := (fun k_ => (P0_0_ k_ ∨ w.heap.size ≤ k_) ∧ k_ ≠ gb209 ∧ k_ ≠ gb210 ∧ k_ ≠ gb211)) (by (with_reducible repeat (first | apply Kd.V_alloc | apply Kd.V_drewN | apply Kd.V_drew)); exact Kd.V_mono HL215_6.out (fun _ hk => ⟨⟨hk.1, ⟨hk.2.2.1, ⟨hk.2.2.2.1, hk.2.2.2.2⟩⟩⟩, hk.2.1⟩)) hg hat)
          have n7_ := zqj (Kd.V_afterv (ok := (fun k_ => (P0_0_ k_ ∨ w.heap.size ≤ k_) ∧ k_ ≠ gb209 ∧ k_ ≠ gb210 ∧ k_ ≠ gb211)) (by (with_reducible repeat (first | apply Kd.V_alloc | apply Kd.V_drewN | apply Kd.V_drew)); exact Kd.V_mono HL216_1.out (fun _ hk => ⟨⟨hk.1, ⟨hk.2.2.1, ⟨hk.2.2.2.1, hk.2.2.2.2⟩⟩⟩, hk.2.1⟩)) hg hat)
          have n8_ := zqj (Kd.V_afterv (ok := (fun k_ => (P0_0_ k_ ∨ w.heap.size ≤ k_) ∧ k_ ≠ gb209 ∧ k_ ≠ gb210 ∧ k_ ≠ gb211)) (by (with_reducible repeat (first | apply Kd.V_alloc | apply Kd.V_drewN | apply Kd.V_drew)); exact Kd.V_mono HL217_6.out (fun _ hk => ⟨⟨hk.1, ⟨hk.2.2.1, ⟨hk.2.2.2.1, hk.2.2.2.2⟩⟩⟩, hk.2.1⟩)) hg hat)
          have n9_ := zqj (hb)
          have n10_ := zqj (ho)
          (clear HO_210000; clear BK209; clear BK210; clear BK211; clear HL212_1; clear HL214_1; clear HL215_6; clear HL216_1; clear HL217_6; clear HB; clear HO_212000; have HO_210000 := n0_; have BK209 := n1_; have BK210 := n2_; have BK211 := n3_; have HL212_1 := n4_; have HL214_1 := n5_; have HL215_6 := n6_; have HL216_1 := n7_; have HL217_6 := n8_; have HB := n9_; have HO220 := n10_; clear n0_ n1_ n2_ n3_ n4_ n5_ n6_ n7_ n8_ n9_ n10_; clear ho hb hg hat)
          obtain ⟨Ao30, co30, eo30⟩ := Kd.N_slice HO220.out
          (first | subst eo30 | (injection eo30 with f1_ f2_ f3_; have f4_ := f1_.symm; have f5_ := f3_.symm; clear f1_ f2_ f3_; subst f4_; subst f5_))
          refine hK.out _ _ ?_
          clear hK K
          refine norm_ (a' := ?_) ?_ ?_
          rotate_left
          ·show Act.put _ (some 52) _ = _
           simp only [Act.put, zqk, zql, zqm, i64_w, i32_w]
           rfl
          refine zp 14 53 (zb 16 32767) HT_.out ?_
          refine last_ (i := 15) (N := none) (zb 16 65535) rfl rfl (one_of HT_.out (by kernel_rfl)) (by decide) (fun K hK => ?_)
          have hs31 : w29.cell? ⟨gb211, 0, none⟩ = some (u212000) := (blk_cell BK211.out 0).trans rfl
          have hfs31 := zqi BK211.out 0
          have hns31_0 := NB209_211.out
          have hns31_1 := NB210_211.out
          have hms31_0 := NB211_209.out
          have hms31_1 := NB211_210.out
          refine skip_ (w1 := ?_) (by rfl) rfl ?_ ?_
          rotate_left
          ·go_simp
           rfl
          refine hK.out _ _ ?_
          clear hK K
          refine done_ (done_of HT_.out (by kernel_rfl)) ?_
          try go_wp2
          go_roundg k1
          case measure => have := HK1.out; omega
          case rel => exact ⟨(wrap64 (x6_1 + 1)), (y218), (.slice Ao30 y218.length co30), zrt, H', ⟨by have := HK1.out; omega⟩, ⟨by (with_reducible repeat (first | apply Kd.V_alloc | apply Kd.V_drewN | apply Kd.V_drew)); exact Kd.V_mono (Kd.V_far (p := ⟨gb211, 0, none⟩) (Kd.V_mono HO_210000.out (fun k_ hk => (⟨hk, hk.1.2.2.2⟩ : _ ∧ k_ ≠ gb211))) (fun _ hk => hk.2) (.slice Ao30 y218.length co30)) (fun _ hk => ⟨hk.1.1.1, ⟨hk.1.2, ⟨hk.1.1.2.1, ⟨hk.1.1.2.2.1, hk.1.1.2.2.2⟩⟩⟩⟩)⟩, ⟨by (with_reducible repeat (first | apply Kd.N_alloc | apply Kd.N_drewN | apply Kd.N_drew)); exact Kd.N_mono (Kd.N_far (p := ⟨gb211, 0, none⟩) (Kd.N_mono HO220.out (fun k_ hk => (⟨hk, hk.2.2.2⟩ : _ ∧ k_ ≠ gb211))) (fun _ hk => hk.2) (.slice Ao30 y218.length co30)) (fun _ hk => ⟨hk.1.1, ⟨hk.1.2.1, ⟨hk.1.2.2.1, hk.1.2.2.2⟩⟩⟩)⟩, ⟨by (with_reducible repeat (first | refine zqa ?_ _ | refine zqb ?_ | refine zqc ?_ _)); refine blk_far ?_ NB209_211.out _; (with_reducible repeat (first | refine zqa ?_ _ | refine zqb ?_ | refine zqc ?_ _)); exact BK209.out⟩, ⟨by (with_reducible repeat (first | refine zqa ?_ _ | refine zqb ?_ | refine zqc ?_ _)); refine blk_far ?_ NB210_211.out _; (with_reducible repeat (first | refine zqa ?_ _ | refine zqb ?_ | refine zqc ?_ _)); exact BK210.out⟩, ⟨by (with_reducible repeat (first | refine zqa ?_ _ | refine zqb ?_ | refine zqc ?_ _)); refine blk_put (cs := #[u212000, .int .i64 1]) ?_ 0 _ rfl; (with_reducible repeat (first | refine zqa ?_ _ | refine zqb ?_ | refine zqc ?_ _)); exact BK211.out⟩, ⟨by repeat (first | (with_reducible first | exact HB.out | apply zqg | apply zqe | apply zqf | refine zqd ?_ GE209.out | refine zqd ?_ GE210.out | refine zqd ?_ GE211.out) | exact HB.out)⟩⟩
         ·rw [if_neg c22] at H
          exact absurd H (by simp)
       ·rw [if_neg c14] at H
        exact absurd H (by simp)
      ·rw [if_neg c13] at H
       exact absurd H (by simp)
     ·rw [if_neg c12] at H
      have c12b0 : decide (0 ≤ t213) = false := decide_eq_false c12
      clear c12
      have H' := zqj H
      clear H
      have hnb32 := NB209_210.out
      have hnc32 := NB210_209.out
      have hnb33 := NB209_211.out
      have hnc33 := NB211_209.out
      obtain ⟨hcz34_0, hcz34_1, hcz34_2⟩ := zc3 BK209.out
      (obtain ⟨hfz34_0, hfz34_1, hfz34_2⟩ := zf3 BK209.out)
      have p212 : 0 ≤ (x6_1 : Int) := zqh zrs
      have q212 : x6_1 < (l0_0.length : Int) := zqh zrs
      obtain ⟨ad212, A212_1, c212_1, e212, hx212_0, hx212_1, hl212_1, hi212_1⟩ := at_T55 (Kd.V_reads' HO_210000.out).2.2 x6_1 p212 q212
      cases e212
      obtain ⟨ce212, hce212, hMe212, hcc212⟩ := Kd.V_get HO_210000.out z55 x6_1 p212 (by first | exact q212 | exact zqh zrs | (have e_ := (Kd.V_reads' HO_210000.out).1; omega))
      obtain ⟨ua212_1, uc212_1, rfl, ul212_1, ge212_1⟩ := k55_openF hMe212
      have hv212_1 := hcc212 1 _ rfl
      rw [add_field _ _ 1 (by omega)] at hv212_1
      replace hv212_1 := Option.some.inj (hv212_1.symm.trans hx212_1)
      injection hv212_1 with hva_ hvn_ hvc_
      rw [hva_] at ge212_1
      rw [hvc_] at ul212_1
      have HL212_1 := zqj (show Kd.V k58 58 _ w.heap.size _ _ ((rd_T55 l0_0 x6_1).f1) from Kd.V_mk ul212_1 ge212_1)
      (clear hva_ hvn_ hvc_ ge212_1 ul212_1; clear hcc212 hce212)
      have HR212_1 := zqj hi212_1
      have HC212_1 := zqj hl212_1
      clear hi212_1 hl212_1
      replace p212 := eq_true p212
      replace q212 := eq_true q212
      go_wp2_with (first | ((with_reducible refine gate_callee (f := 42) rfl ?_); refine goesL_ (some 23) rfl rfl Try.func42 (by kernel_rfl) rfl #[.agg #[.int .i64 ((rd_T55 l0_0 x6_1).f0), .slice A212_1 ((rd_T55 l0_0 x6_1).f1).length c212_1], .int .i64 a1] rfl zra ?_; (with_reducible refine (copyholdref12_seen.calls k1 ((rd_T55 l0_0 x6_1).f0) _ _ ((rd_T55 l0_0 x6_1).f1) a1 t213 _ ?side1 ?side2 A11.out).mono ?_); (case side1 => repeat (first | exact (by repeat (first | (with_reducible exact HR212_1.out) | (with_reducible refine Kd.C_alloc ?_ _) | (with_reducible refine Kd.C_drewN ?_ _) | (with_reducible refine Kd.C_drew ?_) | exact HR212_1.out | exact (Kd.V_reads' HL212_1.out).2.2)) | (with_reducible refine Kd.C_alloc ?_ _) | (with_reducible refine Kd.C_drewN ?_ _) | (with_reducible refine Kd.C_drew ?_))); (case side2 => exact HC212_1.out); rintro e w35 ⟨rfl, hb⟩; refine ⟨_, rfl, ?_⟩; have n0_ := zqj (Kd.V_below (zrV HO_210000.out) hb); have n1_ := zqj (Kd.N_below (zrN HO_212000.out) hb); have n2_ := zqj (Kd.V_below (zrV HL212_1.out) hb); have n3_ := zqj (blk_below (g := gb209) (o := .cells #[.slice (some ad212) l0_0.length c0_0, .slice A0_1 l0_1.length c0_1, .int .i64 a0_2] 25 (0, 0)) (zrb BK209.out) hb); have n4_ := zqj (blk_below (g := gb210) (o := .cells #[.slice none 0 0, .int .i64 0] 34 (0, 0)) (zrb BK210.out) hb); have n5_ := zqj (blk_below (g := gb211) (o := .cells #[u212000, .int .i64 1] 34 (0, 0)) (zrb BK211.out) hb); have n6_ := zqj (Kd.C_below (by repeat (first | (with_reducible exact HR212_1.out) | (with_reducible refine Kd.C_alloc ?_ _) | (with_reducible refine Kd.C_drewN ?_ _) | (with_reducible refine Kd.C_drew ?_) | exact HR212_1.out | exact (Kd.V_reads' HL212_1.out).2.2)) hb); have n7_ := zqj (below_step (zrd3 HB.out GE209.out GE210.out GE211.out) hb); clear HO_210000; clear HO_212000; clear HL212_1; clear BK209; clear BK210; clear BK211; clear HR212_1; clear HB; have HO_210000 := n0_; have HO_212000 := n1_; have HL212_1 := n2_; have BK209 := n3_; have BK210 := n4_; have BK211 := n5_; have HR212_1 := n6_; have HB := n7_; clear n0_ n1_ n2_ n3_ n4_ n5_ n6_ n7_; (try clear hb); (try clear hb2); (try clear hk); (try clear hi)))
      go_roundg k1
      case measure => have := HK1.out; omega
      case rel => exact ⟨(wrap64 (x6_1 + 1)), (x212000_1), (u212000), zrt, H', ⟨by have := HK1.out; omega⟩, ⟨by (with_reducible repeat (first | apply Kd.V_alloc | apply Kd.V_drewN | apply Kd.V_drew)); exact HO_210000.out⟩, ⟨by (with_reducible repeat (first | apply Kd.N_alloc | apply Kd.N_drewN | apply Kd.N_drew)); exact HO_212000.out⟩, ⟨by (with_reducible repeat (first | refine zqa ?_ _ | refine zqb ?_ | refine zqc ?_ _)); exact BK209.out⟩, ⟨by (with_reducible repeat (first | refine zqa ?_ _ | refine zqb ?_ | refine zqc ?_ _)); exact BK210.out⟩, ⟨by (with_reducible repeat (first | refine zqa ?_ _ | refine zqb ?_ | refine zqc ?_ _)); exact BK211.out⟩, ⟨by repeat (first | (with_reducible first | exact HB.out | apply zqg | apply zqe | apply zqf | refine zqd ?_ GE209.out | refine zqd ?_ GE210.out | refine zqd ?_ GE211.out) | exact HB.out)⟩⟩
    ·rw [if_neg c10] at H
     exact absurd H (by simp)
   ·rw [if_neg c9] at H
    have c9b0 : decide (x6_1 < (l0_0.length : Int)) = false := decide_eq_false c9
    clear c9
    replace H := zqn H
    obtain ⟨t221, A360, H⟩ := H
    replace H : (if t221 ≥ 0 then (if 0 ≤ t221 then (if t221 < (l0_1.length : Int) then (some (x212000_1, (rd_T61 l0_1 t221).f1)) else (none)) else (none)) else (some (x212000_1, 1))) = some (r1, r2) := H
    have A36 := zqj A360
    clear A360
    by_cases c37 : t221 ≥ 0
    ·rw [if_pos c37] at H
     have c37b0 : decide (0 ≤ t221) = true := decide_eq_true c37
     clear c37
     by_cases c38 : 0 ≤ t221
     ·rw [if_pos c38] at H
      have c38b0 : decide (0 ≤ t221) = true := decide_eq_true c38
      clear c38
      by_cases c39 : t221 < (l0_1.length : Int)
      ·rw [if_pos c39] at H
       have c39b0 : decide (t221 < (l0_1.length : Int)) = true := decide_eq_true c39
       clear c39
       simp only [Option.some.injEq, Prod.mk.injEq] at H
       obtain ⟨rfl, rfl⟩ := H
       have hnb40 := NB209_210.out
       have hnc40 := NB210_209.out
       have hnb41 := NB209_211.out
       have hnc41 := NB211_209.out
       obtain ⟨hcz42_0, hcz42_1, hcz42_2⟩ := zc3 BK209.out
       (obtain ⟨hfz42_0, hfz42_1, hfz42_2⟩ := zf3 BK209.out)
       go_wp2_with (first | ((with_reducible refine gate_callee (f := 43) rfl ?_); refine goesL_ (some 56) rfl rfl Try.func43 (by kernel_rfl) rfl #[.agg #[.slice A0_0 l0_0.length c0_0, .slice A0_1 l0_1.length c0_1, .int .i64 a0_2], .int .i64 a1] rfl zra ?_; (with_reducible refine (copyholdref12_next.calls k1 _ _ l0_0 _ _ l0_1 a0_2 a1 t221 _ ?side1 ?side2 ?side3 ?side4 A36.out).mono ?_); (case side1 => repeat (first | exact (Kd.V_reads' HO_210000.out).2.2 | (with_reducible refine Kd.C_alloc ?_ _) | (with_reducible refine Kd.C_drewN ?_ _) | (with_reducible refine Kd.C_drew ?_))); (case side2 => exact (Kd.V_reads' HO_210000.out).2.1); (case side3 => exact zrc (Kd.C_below HR0_1.out HB.out)); (case side4 => exact HC0_1.out); rintro e w43 ⟨rfl, hb⟩; refine ⟨_, rfl, ?_⟩; replace HO_210000 := zqj (Kd.V_below (zrV HO_210000.out) hb); replace HO_212000 := zqj (Kd.N_below (zrN HO_212000.out) hb); replace BK209 := zqj (blk_below (g := gb209) (o := .cells #[.slice A0_0 l0_0.length c0_0, .slice A0_1 l0_1.length c0_1, .int .i64 a0_2] 25 (0, 0)) (zrb BK209.out) hb); replace BK210 := zqj (blk_below (g := gb210) (o := .cells #[.slice none 0 0, .int .i64 0] 34 (0, 0)) (zrb BK210.out) hb); replace BK211 := zqj (blk_below (g := gb211) (o := .cells #[u212000, .int .i64 1] 34 (0, 0)) (zrb BK211.out) hb); replace HB := zqj (below_step (zrd3 HB.out GE209.out GE210.out GE211.out) hb); (try clear hb); (try clear hb2); (try clear hk); (try clear hi); obtain ⟨hcz44_0, hcz44_1, hcz44_2⟩ := zc3 BK209.out; obtain ⟨hfz44_0, hfz44_1, hfz44_2⟩ := zf3 BK209.out; have p222 : 0 ≤ (t221 : Int) := zqh zrs; have q222 : t221 < (l0_1.length : Int) := zqh zrs; obtain ⟨ad222, e222, hx222_0, hx222_1⟩ := at_T61 HR0_1.out t221 p222 q222; cases e222; replace hx222_0 := zx HB.out hx222_0; replace hx222_1 := zx HB.out hx222_1; replace p222 := eq_true p222; replace q222 := eq_true q222; have hnb45 := NB211_210.out; have hnc45 := NB210_211.out; obtain ⟨hcz46_0, hcz46_1⟩ := zc2 BK211.out; obtain ⟨hfz46_0, hfz46_1⟩ := zf2 BK211.out; obtain ⟨Ao47, co47, eo47⟩ := Kd.N_slice HO_212000.out; subst eo47; obtain ⟨hcz48_0, hcz48_1⟩ := zc2 BK210.out; obtain ⟨hfz48_0, hfz48_1⟩ := zf2 BK210.out))
       refine bodyPost_ret (results_cell_row rfl _ _ gb210 34 #[.slice Ao47 x212000_1.length co47, .int .i64 ((rd_T61 l0_1 t221).f1)] (0, 0) _ rfl (by (with_reducible repeat (first | refine zqa ?_ _ | refine zqb ?_ | refine zqc ?_ _)); refine blk_put (cs := #[.slice Ao47 x212000_1.length co47, .int .i64 0]) ?_ 1 _ rfl; (with_reducible repeat (first | refine zqa ?_ _ | refine zqb ?_ | refine zqc ?_ _)); refine blk_put (cs := #[.slice none 0 0, .int .i64 0]) ?_ 0 _ rfl; (with_reducible repeat (first | refine zqa ?_ _ | refine zqb ?_ | refine zqc ?_ _)); refine blk_far ?_ NB210_211.out _; (with_reducible repeat (first | refine zqa ?_ _ | refine zqb ?_ | refine zqc ?_ _)); exact BK210.out) Try.underlying34 rfl (by kernel_rfl)) rfl ?_
       exact ⟨_, zru, by (with_reducible repeat (first | apply Kd.N_alloc | apply Kd.N_drewN | apply Kd.N_drew)); exact Kd.N_mono (Kd.N_far (p := ⟨gb210, 1, none⟩) (Kd.N_far (p := ⟨gb210, 0, none⟩) (Kd.N_far (p := ⟨gb211, 1, none⟩) (Kd.N_mono (Kd.N_mono HO_212000.out (fun k_ hk => (⟨hk, hk.2.2.2⟩ : _ ∧ k_ ≠ gb211))) (fun k_ hk => (⟨hk, hk.1.2.2.1⟩ : _ ∧ k_ ≠ gb210))) (fun _ hk => hk.1.2) (.int .i64 ((rd_T61 l0_1 t221).f1))) (fun _ hk => hk.2) (.slice Ao47 x212000_1.length co47)) (fun _ hk => hk.2) (.int .i64 ((rd_T61 l0_1 t221).f1))) (fun _ hk => hk.1.1.1), by repeat (first | (with_reducible first | exact HB.out | apply zqg | apply zqe | apply zqf | refine zqd ?_ GE209.out | refine zqd ?_ GE210.out | refine zqd ?_ GE211.out) | exact HB.out)⟩
      ·rw [if_neg c39] at H
       exact absurd H (by simp)
     ·rw [if_neg c38] at H
      exact absurd H (by simp)
    ·rw [if_neg c37] at H
     have c37b0 : decide (0 ≤ t221) = false := decide_eq_false c37
     clear c37
     simp only [Option.some.injEq, Prod.mk.injEq] at H
     obtain ⟨rfl, rfl⟩ := H
     have hnb49 := NB209_210.out
     have hnc49 := NB210_209.out
     have hnb50 := NB209_211.out
     have hnc50 := NB211_209.out
     obtain ⟨hcz51_0, hcz51_1, hcz51_2⟩ := zc3 BK209.out
     (obtain ⟨hfz51_0, hfz51_1, hfz51_2⟩ := zf3 BK209.out)
     go_wp2_with (first | ((with_reducible refine gate_callee (f := 43) rfl ?_); refine goesL_ (some 56) rfl rfl Try.func43 (by kernel_rfl) rfl #[.agg #[.slice A0_0 l0_0.length c0_0, .slice A0_1 l0_1.length c0_1, .int .i64 a0_2], .int .i64 a1] rfl zra ?_; (with_reducible refine (copyholdref12_next.calls k1 _ _ l0_0 _ _ l0_1 a0_2 a1 t221 _ ?side1 ?side2 ?side3 ?side4 A36.out).mono ?_); (case side1 => repeat (first | exact (Kd.V_reads' HO_210000.out).2.2 | (with_reducible refine Kd.C_alloc ?_ _) | (with_reducible refine Kd.C_drewN ?_ _) | (with_reducible refine Kd.C_drew ?_))); (case side2 => exact (Kd.V_reads' HO_210000.out).2.1); (case side3 => exact zrc (Kd.C_below HR0_1.out HB.out)); (case side4 => exact HC0_1.out); rintro e w52 ⟨rfl, hb⟩; refine ⟨_, rfl, ?_⟩; replace HO_210000 := zqj (Kd.V_below (zrV HO_210000.out) hb); replace HO_212000 := zqj (Kd.N_below (zrN HO_212000.out) hb); replace BK209 := zqj (blk_below (g := gb209) (o := .cells #[.slice A0_0 l0_0.length c0_0, .slice A0_1 l0_1.length c0_1, .int .i64 a0_2] 25 (0, 0)) (zrb BK209.out) hb); replace BK210 := zqj (blk_below (g := gb210) (o := .cells #[.slice none 0 0, .int .i64 0] 34 (0, 0)) (zrb BK210.out) hb); replace BK211 := zqj (blk_below (g := gb211) (o := .cells #[u212000, .int .i64 1] 34 (0, 0)) (zrb BK211.out) hb); replace HB := zqj (below_step (zrd3 HB.out GE209.out GE210.out GE211.out) hb); (try clear hb); (try clear hb2); (try clear hk); (try clear hi); have hnb53 := NB211_210.out; have hnc53 := NB210_211.out; obtain ⟨hcz54_0, hcz54_1⟩ := zc2 BK211.out; obtain ⟨hfz54_0, hfz54_1⟩ := zf2 BK211.out; obtain ⟨Ao55, co55, eo55⟩ := Kd.N_slice HO_212000.out; subst eo55; obtain ⟨hcz56_0, hcz56_1⟩ := zc2 BK210.out; obtain ⟨hfz56_0, hfz56_1⟩ := zf2 BK210.out))
     refine bodyPost_ret (results_cell_row rfl _ _ gb210 34 #[.slice Ao55 x212000_1.length co55, .int .i64 1] (0, 0) _ rfl (by (with_reducible repeat (first | refine zqa ?_ _ | refine zqb ?_ | refine zqc ?_ _)); refine blk_put (cs := #[.slice Ao55 x212000_1.length co55, .int .i64 0]) ?_ 1 _ rfl; (with_reducible repeat (first | refine zqa ?_ _ | refine zqb ?_ | refine zqc ?_ _)); refine blk_put (cs := #[.slice none 0 0, .int .i64 0]) ?_ 0 _ rfl; (with_reducible repeat (first | refine zqa ?_ _ | refine zqb ?_ | refine zqc ?_ _)); exact BK210.out) Try.underlying34 rfl (by kernel_rfl)) rfl ?_
     exact ⟨_, zru, by (with_reducible repeat (first | apply Kd.N_alloc | apply Kd.N_drewN | apply Kd.N_drew)); exact Kd.N_mono (Kd.N_far (p := ⟨gb210, 1, none⟩) (Kd.N_far (p := ⟨gb210, 0, none⟩) (Kd.N_mono HO_212000.out (fun k_ hk => (⟨hk, hk.2.2.1⟩ : _ ∧ k_ ≠ gb210))) (fun _ hk => hk.2) (.slice Ao55 x212000_1.length co55)) (fun _ hk => hk.2) (.int .i64 1)) (fun _ hk => hk.1.1), by repeat (first | (with_reducible first | exact HB.out | apply zqg | apply zqe | apply zqf | refine zqd ?_ GE209.out | refine zqd ?_ GE210.out | refine zqd ?_ GE211.out) | exact HB.out)⟩
end Go.Proofs.Ytdkgkiemndlneaa.Q
end

section
namespace Go.Proofs.Ytdkgkiemndlneaa.Q
open Go.RowKit Go.Proofs.YtdkgkiemndlneaaW.PrintWords Go.Proofs.YtdkgkiemndlneaaW.PrintLast Go.Proofs.YtdkgkiemndlneaaW.PrintMore
attribute [local go_sem] max2_int min2_int max_two min_two max_three min_three max_four min_four   -- for this text's walks alone
open Go.Proofs.Ytdkgkiemndlneaa.X
attribute [local go_sem high] Go.Proofs.Ytdkgkiemndlneaa.px_xor_u8 Go.Proofs.Ytdkgkiemndlneaa.px_xor_u16 Go.Proofs.Ytdkgkiemndlneaa.px_xor_u32 Go.Proofs.Ytdkgkiemndlneaa.px_xor_u64
def copyholdref11_Ints.l0 : Nat → List Int → List Int → Int → Option (Bool)
 | 0, _, _, _ => none
 | k + 1, x0, x1, x5 => if x5 < (x0.length : Int) then (if 0 ≤ x5 then (if x5 < (x1.length : Int) then (if (rd x0 x5) = (rd x1 x5) then (copyholdref11_Ints.l0 k x0 x1 (wrap64 (x5 + 1))) else (some false)) else (none)) else (none)) else (some true)
def copyholdref11_Ints.f (k : Nat) (l0 : List Int) (l1 : List Int) : Option (Bool) := if (l0.length : Int) = (l1.length : Int) then (copyholdref11_Ints.l0 k l0 l1 0) else (some false)
theorem copyholdref11_Ints.mono_l : ∀ k, (∀ y0 y1 y2, LeO (copyholdref11_Ints.l0 k y0 y1 y2) (copyholdref11_Ints.l0 (k + 1) y0 y1 y2))
 | 0 => fun _ _ _ r h => by simp [copyholdref11_Ints.l0] at h
 | k + 1 => by
  have ih0 := copyholdref11_Ints.mono_l k
  ·intro y0 y1 y2
   unfold copyholdref11_Ints.l0
   repeat' first
   | (with_reducible exact ih0 _ _ _)
   | (with_reducible exact LeO.refl _)
   | (with_reducible exact LeO.none _)
   | (with_reducible refine LeO.ite ?_ ?_)
   | (with_reducible refine LeO.bind ?_ (fun _ => ?_))
   | exact ih0 _ _ _
   | exact LeO.none _
   | refine LeO.ite ?_ ?_
   | refine LeO.bind ?_ (fun _ => ?_)
theorem copyholdref11_Ints.mono : ∀ a0 a1 k, LeO (copyholdref11_Ints.f k a0 a1) (copyholdref11_Ints.f (k + 1) a0 a1) := by
 intro a0 a1 k
 have ih0 := copyholdref11_Ints.mono_l k
 unfold copyholdref11_Ints.f
 repeat' first
   | (with_reducible exact ih0 _ _ _)
   | (with_reducible exact LeO.refl _)
   | (with_reducible exact LeO.none _)
   | (with_reducible refine LeO.ite ?_ ?_)
   | (with_reducible refine LeO.bind ?_ (fun _ => ?_))
   | exact ih0 _ _ _
   | exact LeO.none _
   | refine LeO.ite ?_ ?_
   | refine LeO.bind ?_ (fun _ => ?_)
set_option maxHeartbeats 8000000 in
set_option maxRecDepth 100000 in
theorem copyholdref11_Ints.calls (k : Nat) (A0 : Option Addr) (c0 : Nat) (l0 : List Int) (A1 : Option Addr) (c1 : Nat) (l1 : List Int) (r : Bool) (w : World) (hr0 : Kd.C (Kd.int .i64) w A0 l0.length l0) (hc0 : l0.length ≤ c0) (hr1 : Kd.C (Kd.int .i64) w A1 l1.length l1) (hc1 : l1.length ≤ c1) (h : copyholdref11_Ints.f k l0 l1 = some r) :
  Calls Try.prog 17 #[.slice A0 l0.length c0, .slice A1 l1.length c1] w fun e w' => e = .returned (.bool r) ∧ Drawn0 w w' := by
 have HR0 := zqj hr0
 have HC0 := zqj hc0
 clear hr0 hc0
 have HR1 := zqj hr1
 have HC1 := zqj hc1
 clear hr1 hc1
 have H : (if (l0.length : Int) = (l1.length : Int) then (copyholdref11_Ints.l0 k l0 l1 0) else (some false)) = some r := h
 clear h
 by_cases c3 : (l0.length : Int) = (l1.length : Int)
 ·rw [if_pos c3] at H
  have c3b0 : ((l0.length : Int) == (l1.length : Int)) = true := beq_iff_eq.mpr c3
  have c3b1 : ((l0.length : Int) != (l1.length : Int)) = false := bne_eq_false_iff_eq.mpr c3
  have c3b2 : (l0.length == l1.length) = true := by first | simpa using c3 | (simp at c3 ⊢; omega)
  clear c3
  have H' := zqj H
  clear H
  go_enter Try.func17, Try.ntmps17
  go_wp2
  repeat (go_quiet (fail); try go_wp2)
  go_loopg [5] k (fun kq v5 w' => ∃ (x5_1 : Int), v5 = .int .i64 x5_1 ∧ Aside0 (copyholdref11_Ints.l0 kq l0 l1 x5_1 = some r) ∧ Aside0 (kq ≤ k) ∧ Drawn0 w w')
  case atStart => exact ⟨(0), zrt, H', ⟨Nat.le_refl _⟩, by repeat (first | exact Drawn0.refl _ | apply Drawn0.step)⟩
  case round =>
   clear H'
   ((try clear c1); (try clear p2); (try clear c3); (try clear c3b0); (try clear c3b1); (try clear c3b2))
   obtain ⟨x5_1, rfl, HA, HK1, ⟨m1, rfl⟩⟩ := hrel
   cases gk with
   | zero => exact absurd HA.out (by simp [copyholdref11_Ints.l0])
   | succ k1 =>
    (have H := HA.out; clear HA)
    simp only [copyholdref11_Ints.l0] at H
    by_cases c4 : x5_1 < (l0.length : Int)
    ·rw [if_pos c4] at H
     have c4b0 : decide (x5_1 < (l0.length : Int)) = true := decide_eq_true c4
     clear c4
     by_cases c5 : 0 ≤ x5_1
     ·rw [if_pos c5] at H
      have c5b0 : decide (0 ≤ x5_1) = true := decide_eq_true c5
      clear c5
      by_cases c6 : x5_1 < (l1.length : Int)
      ·rw [if_pos c6] at H
       have c6b0 : decide (x5_1 < (l1.length : Int)) = true := decide_eq_true c6
       clear c6
       by_cases c7 : (rd l0 x5_1) = (rd l1 x5_1)
       ·rw [if_pos c7] at H
        have c7b0 : ((rd l0 x5_1) == (rd l1 x5_1)) = true := beq_iff_eq.mpr c7
        have c7b1 : ((rd l0 x5_1) != (rd l1 x5_1)) = false := bne_eq_false_iff_eq.mpr c7
        clear c7
        have H' := zqj H
        clear H
        have p223 : 0 ≤ (x5_1 : Int) := zqh zrs
        have q223 : x5_1 < (l0.length : Int) := zqh zrs
        obtain ⟨ad223, e223, hx223_0⟩ := Kd.at_int HR0.out x5_1 p223 q223
        cases e223
        replace p223 := eq_true p223
        replace q223 := eq_true q223
        have p224 : 0 ≤ (x5_1 : Int) := zqh zrs
        have q224 : x5_1 < (l1.length : Int) := zqh zrs
        obtain ⟨ad224, e224, hx224_0⟩ := Kd.at_int HR1.out x5_1 p224 q224
        cases e224
        replace p224 := eq_true p224
        replace q224 := eq_true q224
        go_wp2
        repeat (go_quiet (fail); try go_wp2)
        go_roundg k1
        case measure => have := HK1.out; omega
        case rel => exact ⟨(wrap64 (x5_1 + 1)), zrt, H', ⟨by have := HK1.out; omega⟩, by repeat (first | exact Drawn0.refl _ | apply Drawn0.step)⟩
       ·rw [if_neg c7] at H
        have c7b0 : ((rd l0 x5_1) == (rd l1 x5_1)) = false := beq_eq_false_iff_ne.mpr c7
        have c7b1 : ((rd l0 x5_1) != (rd l1 x5_1)) = true := bne_iff_ne.mpr c7
        obtain rfl := Option.some.inj H
        have p223 : 0 ≤ (x5_1 : Int) := zqh zrs
        have q223 : x5_1 < (l0.length : Int) := zqh zrs
        obtain ⟨ad223, e223, hx223_0⟩ := Kd.at_int HR0.out x5_1 p223 q223
        cases e223
        replace p223 := eq_true p223
        replace q223 := eq_true q223
        have p224 : 0 ≤ (x5_1 : Int) := zqh zrs
        have q224 : x5_1 < (l1.length : Int) := zqh zrs
        obtain ⟨ad224, e224, hx224_0⟩ := Kd.at_int HR1.out x5_1 p224 q224
        cases e224
        replace p224 := eq_true p224
        replace q224 := eq_true q224
        go_wp2
        repeat (go_quiet (fail); try go_wp2)
        go_ret
        exact ⟨by first | rfl | (simp; done) | (simp [*]; done), by repeat (first | exact Drawn0.refl _ | apply Drawn0.step)⟩
      ·rw [if_neg c6] at H
       exact absurd H (by simp)
     ·rw [if_neg c5] at H
      exact absurd H (by simp)
    ·rw [if_neg c4] at H
     have c4b0 : decide (x5_1 < (l0.length : Int)) = false := decide_eq_false c4
     clear c4
     obtain rfl := Option.some.inj H
     go_wp2
     repeat (go_quiet (fail); try go_wp2)
     go_ret
     exact ⟨by first | rfl | (simp; done) | (simp [*]; done), by repeat (first | exact Drawn0.refl _ | apply Drawn0.step)⟩
 ·rw [if_neg c3] at H
  have c3b0 : ((l0.length : Int) == (l1.length : Int)) = false := beq_eq_false_iff_ne.mpr c3
  have c3b1 : ((l0.length : Int) != (l1.length : Int)) = true := bne_iff_ne.mpr c3
  have c3b2 : (l0.length == l1.length) = false := by first | simpa using c3 | (simp at c3 ⊢; omega)
  obtain rfl := Option.some.inj H
  go_enter Try.func17, Try.ntmps17
  go_wp2
  repeat (go_quiet (fail); try go_wp2)
  go_ret
  exact ⟨by first | rfl | (simp; done) | (simp [*]; done), by repeat (first | exact Drawn0.refl _ | apply Drawn0.step)⟩
mutual
def copyholdref12_Since.l0 : Nat → Int → List Int → Bool → Int → List (S55) → List (S61) → Int → Option (List Int)
 | 0, _, _, _, _, _, _, _ => none
 | k + 1, x1, x5, x6, x7, x226000, x226001, x226002 => if x7 < (x226000.length : Int) then (copyholdref12_Since.l1 k x1 x5 x6 x7 false 0 x226000 x226001 x226002) else (copyholdref12_Since.l2 k x1 x5 x6 0 x226000 x226001 x226002)
def copyholdref12_Since.l1 : Nat → Int → List Int → Bool → Int → Bool → Int → List (S55) → List (S61) → Int → Option (List Int)
 | 0, _, _, _, _, _, _, _, _, _ => none
 | k + 1, x1, x5, x6, x7, x8, x9, x226000, x226001, x226002 => if 0 ≤ x7 then (if x7 < (x226000.length : Int) then (if x9 < (((rd_T55 x226000 x7).f1).length : Int) then (if x8 = true then (copyholdref12_Since.l1 k x1 x5 x6 x7 true (wrap64 (x9 + 1)) x226000 x226001 x226002) else (if 0 ≤ x9 then (copyholdref12_Since.l1 k x1 x5 x6 x7 (decide (((rd_T58 ((rd_T55 x226000 x7).f1) x9).f0) > x1)) (wrap64 (x9 + 1)) x226000 x226001 x226002) else (none))) else (if x8 = true then (if x5.length < 17592186044416 then (copyholdref12_Since.l0 k x1 (x5 ++ [(rd_T55 x226000 x7).f0]) true (wrap64 (x7 + 1)) x226000 x226001 x226002) else (none)) else (copyholdref12_Since.l0 k x1 x5 x6 (wrap64 (x7 + 1)) x226000 x226001 x226002))) else (none)) else (none)
def copyholdref12_Since.l2 : Nat → Int → List Int → Bool → Int → List (S55) → List (S61) → Int → Option (List Int)
 | 0, _, _, _, _, _, _, _ => none
 | k + 1, x1, x5, x6, x10, x226000, x226001, x226002 => if x10 < (x226001.length : Int) then (if x6 = true then (copyholdref12_Since.l2 k x1 x5 true (wrap64 (x10 + 1)) x226000 x226001 x226002) else (if 0 ≤ x10 then (copyholdref12_Since.l2 k x1 x5 (decide (((rd_T61 x226001 x10).f0) > x1)) (wrap64 (x10 + 1)) x226000 x226001 x226002) else (none))) else (if x6 = true then (some x5) else (some ([] : List Int)))
end
def copyholdref12_Since.f (k : Nat) (l0_0 : List (S55)) (l0_1 : List (S61)) (a0_2 : Int) (a1 : Int) : Option (List Int) := copyholdref12_Since.l0 k a1 (([0] : List Int)) false 0 l0_0 l0_1 a0_2
theorem copyholdref12_Since.mono_l : ∀ k, (∀ y0 y1 y2 y3 y4 y5 y6, LeO (copyholdref12_Since.l0 k y0 y1 y2 y3 y4 y5 y6) (copyholdref12_Since.l0 (k + 1) y0 y1 y2 y3 y4 y5 y6)) ∧ (∀ y0 y1 y2 y3 y4 y5 y6 y7 y8, LeO (copyholdref12_Since.l1 k y0 y1 y2 y3 y4 y5 y6 y7 y8) (copyholdref12_Since.l1 (k + 1) y0 y1 y2 y3 y4 y5 y6 y7 y8)) ∧ (∀ y0 y1 y2 y3 y4 y5 y6, LeO (copyholdref12_Since.l2 k y0 y1 y2 y3 y4 y5 y6) (copyholdref12_Since.l2 (k + 1) y0 y1 y2 y3 y4 y5 y6))
 | 0 => ⟨fun _ _ _ _ _ _ _ r h => by simp [copyholdref12_Since.l0] at h, fun _ _ _ _ _ _ _ _ _ r h => by simp [copyholdref12_Since.l1] at h, fun _ _ _ _ _ _ _ r h => by simp [copyholdref12_Since.l2] at h⟩
 | k + 1 => by
  obtain ⟨ih0, ih1, ih2⟩ := copyholdref12_Since.mono_l k
  refine ⟨?_, ?_, ?_⟩
  ·intro y0 y1 y2 y3 y4 y5 y6
   unfold copyholdref12_Since.l0
   repeat' first
   | (with_reducible exact ih0 _ _ _ _ _ _ _)
   | (with_reducible exact ih1 _ _ _ _ _ _ _ _ _)
   | (with_reducible exact ih2 _ _ _ _ _ _ _)
   | (with_reducible exact LeO.refl _)
   | (with_reducible exact LeO.none _)
   | (with_reducible refine LeO.ite ?_ ?_)
   | (with_reducible refine LeO.bind ?_ (fun _ => ?_))
   | exact ih0 _ _ _ _ _ _ _
   | exact ih1 _ _ _ _ _ _ _ _ _
   | exact ih2 _ _ _ _ _ _ _
   | exact LeO.none _
   | refine LeO.ite ?_ ?_
   | refine LeO.bind ?_ (fun _ => ?_)
  ·intro y0 y1 y2 y3 y4 y5 y6 y7 y8
   unfold copyholdref12_Since.l1
   repeat' first
   | (with_reducible exact ih0 _ _ _ _ _ _ _)
   | (with_reducible exact ih1 _ _ _ _ _ _ _ _ _)
   | (with_reducible exact ih2 _ _ _ _ _ _ _)
   | (with_reducible exact LeO.refl _)
   | (with_reducible exact LeO.none _)
   | (with_reducible refine LeO.ite ?_ ?_)
   | (with_reducible refine LeO.bind ?_ (fun _ => ?_))
   | exact ih0 _ _ _ _ _ _ _
   | exact ih1 _ _ _ _ _ _ _ _ _
   | exact ih2 _ _ _ _ _ _ _
   | exact LeO.none _
   | refine LeO.ite ?_ ?_
   | refine LeO.bind ?_ (fun _ => ?_)
  ·intro y0 y1 y2 y3 y4 y5 y6
   unfold copyholdref12_Since.l2
   repeat' first
   | (with_reducible exact ih0 _ _ _ _ _ _ _)
   | (with_reducible exact ih1 _ _ _ _ _ _ _ _ _)
   | (with_reducible exact ih2 _ _ _ _ _ _ _)
   | (with_reducible exact LeO.refl _)
   | (with_reducible exact LeO.none _)
   | (with_reducible refine LeO.ite ?_ ?_)
   | (with_reducible refine LeO.bind ?_ (fun _ => ?_))
   | exact ih0 _ _ _ _ _ _ _
   | exact ih1 _ _ _ _ _ _ _ _ _
   | exact ih2 _ _ _ _ _ _ _
   | exact LeO.none _
   | refine LeO.ite ?_ ?_
   | refine LeO.bind ?_ (fun _ => ?_)
theorem copyholdref12_Since.mono : ∀ a0 a1 a2 a3 k, LeO (copyholdref12_Since.f k a0 a1 a2 a3) (copyholdref12_Since.f (k + 1) a0 a1 a2 a3) := by
 intro a0 a1 a2 a3 k
 obtain ⟨ih0, ih1, ih2⟩ := copyholdref12_Since.mono_l k
 unfold copyholdref12_Since.f
 repeat' first
   | (with_reducible exact ih0 _ _ _ _ _ _ _)
   | (with_reducible exact ih1 _ _ _ _ _ _ _ _ _)
   | (with_reducible exact ih2 _ _ _ _ _ _ _)
   | (with_reducible exact LeO.refl _)
   | (with_reducible exact LeO.none _)
   | (with_reducible refine LeO.ite ?_ ?_)
   | (with_reducible refine LeO.bind ?_ (fun _ => ?_))
   | exact ih0 _ _ _ _ _ _ _
   | exact ih1 _ _ _ _ _ _ _ _ _
   | exact ih2 _ _ _ _ _ _ _
   | exact LeO.none _
   | refine LeO.ite ?_ ?_
   | refine LeO.bind ?_ (fun _ => ?_)
set_option maxHeartbeats 8000000 in
set_option maxRecDepth 100000 in
theorem copyholdref12_Since.calls (k : Nat) (A0_0 : Option Addr) (c0_0 : Nat) (l0_0 : List (S55)) (A0_1 : Option Addr) (c0_1 : Nat) (l0_1 : List (S61)) (a0_2 : Int) (a1 : Int) (r : List Int) (w : World) (hr0_0 : Kd.C k55 w A0_0 l0_0.length l0_0) (hc0_0 : l0_0.length ≤ c0_0) (hr0_1 : Kd.C k61 w A0_1 l0_1.length l0_1) (hc0_1 : l0_1.length ≤ c0_1) (h : copyholdref12_Since.f k l0_0 l0_1 a0_2 a1 = some r) :
  Calls Try.prog 18 #[.agg #[.slice A0_0 l0_0.length c0_0, .slice A0_1 l0_1.length c0_1, .int .i64 a0_2], .int .i64 a1] w fun e w' => ∃ v0_ : Value, e = .returned (v0_) ∧ Kd.R (Kd.int .i64) 3 w' w.heap.size (fun _ => True) v0_ r ∧ Below w.heap.size w w' := by
 have hu25 := Try.underlying25
 have HR0_0 := zqj hr0_0
 have HC0_0 := zqj hc0_0
 clear hr0_0 hc0_0
 have HR0_1 := zqj hr0_1
 have HC0_1 := zqj hc0_1
 clear hr0_1 hc0_1
 have HB := zqj (Below.refl w.heap.size w)
 have H : (copyholdref12_Since.l0 k a1 (([0] : List Int)) false 0 l0_0 l0_1 a0_2) = some r := h
 clear h
 obtain ⟨y226, hy226⟩ : ∃ y_ : List Int, y_ = (([0] : List Int)) := ⟨_, rfl⟩
 replace H : (copyholdref12_Since.l0 k a1 y226 false 0 l0_0 l0_1 a0_2) = some r := by first | (rw [hy226]; with_reducible exact H) | (have H2_ := (Option.bind_some _ _).symm.trans H; rw [hy226]; with_reducible exact H2_) | (have H2_ := (Option.bind_some _ _).symm.trans H; with_reducible exact H2_) | with_reducible exact H | (rw [hy226]; exact H) | exact H
 have Ny226 := zqj hy226
 clear hy226
 have H' := zqj H
 clear H
 go_enter Try.func18, Try.ntmps18
 go_wp2_with (first | ((with_reducible refine gate_dst (N := 2) rfl ?_); refine box_event ?hg (N := 2) ?hd (cs := #[.slice A0_0 l0_0.length c0_0, .slice A0_1 l0_1.length c0_1, .int .i64 a0_2]) (t := 25) ?hr ?_; (case hd => rfl); (case hg => rfl); (case hr => exact zrr); intro gb225 hg w3 hbox hb; have n0_ := zqj (below_step (zrd0 HB.out) hb); have n1_ := zqj (hbox); have n2_ : Aside0 (w.heap.size ≤ gb225) := ⟨by rw [hg]; exact below_size (zrd0 HB.out)⟩; have n3_ := n2_; clear HB; have HB := n0_; have BK225 := n1_; have GW225 := n2_; have GE225 := n3_; clear n0_ n1_ n2_ n3_; clear hb hbox hg) | ((with_reducible refine gate_dst (N := 11) rfl ?_); refine Kd.R_lit (Kd.int .i64) _ 3 ?hg (N := 11) ?hd (xs := ([0] : List Int)) (inner := [.int .i64 0]) (ok := fun _ => True) (okp := fun _ => True) ?hr ?hp (fun _ hk => hk) trivial (Below.refl _ _) (Nat.le_refl _) (by simp) ?_; (case hd => rfl); (case hg => rfl); (case hr => exact zrr); (case hp => exact (Reps.one (show Kd.M (Kd.int .i64) _ _ _ 0 [.int .i64 0] from rfl) (Reps.none _ _))); intro v227 w4 ho5 hb hg_ hnew_; clear hg_ hnew_; (first | rw [← Ny226.out] at ho5 | (simp only [Int.reduceToNat] at ho5; rw [← Ny226.out] at ho5)); have n0_ := zqj (Kd.R_lower ho5 (below_size (zrd1 HB.out GE225.out))); have n1_ := zqj (blk_below (g := gb225) (o := .cells #[.slice A0_0 l0_0.length c0_0, .slice A0_1 l0_1.length c0_1, .int .i64 a0_2] 25 (0, 0)) (zrb BK225.out) hb); have n2_ := zqj (below_step (zrd1 HB.out GE225.out) hb); clear BK225; clear HB; have HO228 := n0_; have BK225 := n1_; have HB := n2_; clear n0_ n1_ n2_; clear hb ho5))
 go_loopg [5, 6, 7] k (fun kq v5 v6 v7 w' => ∃ (x5_1 : List Int) (x6_1 : Bool) (x7_1 : Int), v6 = .bool x6_1 ∧ v7 = .int .i64 x7_1 ∧ Aside0 (copyholdref12_Since.l0 kq a1 x5_1 x6_1 x7_1 l0_0 l0_1 a0_2 = some r) ∧ Aside0 (kq ≤ k) ∧ Aside0 (Kd.R (Kd.int .i64) 3 w' w.heap.size (fun _ => True) v5 x5_1) ∧ Aside0 (w'.heap[gb225]? = some (.cells #[(.slice A0_0 l0_0.length c0_0), (.slice A0_1 l0_1.length c0_1), .int .i64 a0_2] 25 (0, 0))) ∧ Aside0 (Below w.heap.size w w'))
 case atStart => exact ⟨(y226), (false), (0), zrt, zrt, H', ⟨Nat.le_refl _⟩, ⟨by (with_reducible repeat (first | apply Kd.R_alloc | apply Kd.R_drewN | apply Kd.R_drew)); exact HO228.out⟩, ⟨by (with_reducible repeat (first | refine zqa ?_ _ | refine zqb ?_ | refine zqc ?_ _)); exact BK225.out⟩, ⟨by repeat (first | (with_reducible first | exact HB.out | apply zqg | apply zqe | apply zqf | refine zqd ?_ GE225.out) | exact HB.out)⟩⟩
 case round =>
  clear H'
  ((try clear c1); (try clear p2))
  obtain ⟨x5_1, x6_1, x7_1, rfl, rfl, HA, HK1, HO_5, BK225, HB⟩ := hrel
  cases gk with
  | zero => exact absurd HA.out (by simp [copyholdref12_Since.l0])
  | succ k1 =>
   (have H := HA.out; clear HA)
   simp only [copyholdref12_Since.l0] at H
   by_cases c6 : x7_1 < (l0_0.length : Int)
   ·rw [if_pos c6] at H
    have c6b0 : decide (x7_1 < (l0_0.length : Int)) = true := decide_eq_true c6
    clear c6
    have H' := zqj H
    clear H
    obtain ⟨hcz7_0, hcz7_1, hcz7_2⟩ := zc3 BK225.out
    (obtain ⟨hfz7_0, hfz7_1, hfz7_2⟩ := zf3 BK225.out)
    go_wp2
    go_loopg [8, 9] k1 (fun kq v8 v9 w' => ∃ (x8_2 : Bool) (x9_2 : Int), v8 = .bool x8_2 ∧ v9 = .int .i64 x9_2 ∧ Aside0 (copyholdref12_Since.l1 kq a1 x5_1 x6_1 x7_1 x8_2 x9_2 l0_0 l0_1 a0_2 = some r) ∧ Aside0 (kq ≤ k1) ∧ Aside0 (Kd.R (Kd.int .i64) 3 w' w.heap.size (fun _ => True) u5 x5_1) ∧ Aside0 (w'.heap[gb225]? = some (.cells #[(.slice A0_0 l0_0.length c0_0), (.slice A0_1 l0_1.length c0_1), .int .i64 a0_2] 25 (0, 0))) ∧ Aside0 (Below w.heap.size w w'))
    case atStart => exact ⟨(false), (0), zrt, zrt, H', ⟨Nat.le_refl _⟩, ⟨by (with_reducible repeat (first | apply Kd.R_alloc | apply Kd.R_drewN | apply Kd.R_drew)); exact HO_5.out⟩, ⟨by (with_reducible repeat (first | refine zqa ?_ _ | refine zqb ?_ | refine zqc ?_ _)); exact BK225.out⟩, ⟨by repeat (first | (with_reducible first | exact HB.out | apply zqg | apply zqe | apply zqf | refine zqd ?_ GE225.out) | exact HB.out)⟩⟩
    case round =>
     clear H'
     ((try clear c1); (try clear p2); (try clear c6); (try clear c6b0); (try clear hcz7_0); (try clear hcz7_1); (try clear hcz7_2); (try clear hfz7_0); (try clear hfz7_1); (try clear hfz7_2); (try clear p2))
     obtain ⟨x8_2, x9_2, rfl, rfl, HA, HK2, HO_5, BK225, HB⟩ := hrel
     cases gk with
     | zero => exact absurd HA.out (by simp [copyholdref12_Since.l1])
     | succ k2 =>
      (have H := HA.out; clear HA)
      simp only [copyholdref12_Since.l1] at H
      by_cases c8 : 0 ≤ x7_1
      ·rw [if_pos c8] at H
       have c8b0 : decide (0 ≤ x7_1) = true := decide_eq_true c8
       clear c8
       by_cases c9 : x7_1 < (l0_0.length : Int)
       ·rw [if_pos c9] at H
        have c9b0 : decide (x7_1 < (l0_0.length : Int)) = true := decide_eq_true c9
        clear c9
        by_cases c10 : x9_2 < (((rd_T55 l0_0 x7_1).f1).length : Int)
        ·rw [if_pos c10] at H
         have c10b0 : decide (x9_2 < (((rd_T55 l0_0 x7_1).f1).length : Int)) = true := decide_eq_true c10
         clear c10
         by_cases c11 : x8_2 = true
         ·subst c11
          have H1 : (copyholdref12_Since.l1 k2 a1 x5_1 x6_1 x7_1 true (wrap64 (x9_2 + 1)) l0_0 l0_1 a0_2) = some r := by rw [if_pos rfl] at H; exact H
          clear H
          have H := H1
          clear H1
          have H' := zqj H
          clear H
          obtain ⟨hcz12_0, hcz12_1, hcz12_2⟩ := zc3 BK225.out
          (obtain ⟨hfz12_0, hfz12_1, hfz12_2⟩ := zf3 BK225.out)
          have p229 : 0 ≤ (x7_1 : Int) := zqh zrs
          have q229 : x7_1 < (l0_0.length : Int) := zqh zrs
          obtain ⟨ad229, A229_1, c229_1, e229, hx229_0, hx229_1, hl229_1, hi229_1⟩ := at_T55 HR0_0.out x7_1 p229 q229
          cases e229
          replace hx229_0 := zx HB.out hx229_0
          replace hx229_1 := zx HB.out hx229_1
          have HR229_1 := zqj hi229_1
          have HC229_1 := zqj hl229_1
          clear hi229_1 hl229_1
          replace p229 := eq_true p229
          replace q229 := eq_true q229
          go_wp2
          go_roundg k2
          case measure => have := HK1.out; have := HK2.out; omega
          case rel => exact ⟨(true), (wrap64 (x9_2 + 1)), zrt, zrt, H', ⟨by have := HK1.out; have := HK2.out; omega⟩, ⟨by (with_reducible repeat (first | apply Kd.R_alloc | apply Kd.R_drewN | apply Kd.R_drew)); exact HO_5.out⟩, ⟨by (with_reducible repeat (first | refine zqa ?_ _ | refine zqb ?_ | refine zqc ?_ _)); exact BK225.out⟩, ⟨by repeat (first | (with_reducible first | exact HB.out | apply zqg | apply zqe | apply zqf | refine zqd ?_ GE225.out) | exact HB.out)⟩⟩
         ·replace c11 := Bool.eq_false_iff.mpr c11
          subst c11
          have H1 : (if 0 ≤ x9_2 then (copyholdref12_Since.l1 k2 a1 x5_1 x6_1 x7_1 (decide (((rd_T58 ((rd_T55 l0_0 x7_1).f1) x9_2).f0) > a1)) (wrap64 (x9_2 + 1)) l0_0 l0_1 a0_2) else (none)) = some r := by rw [if_neg (show ¬ (false = true) by decide)] at H; exact H
          clear H
          have H := H1
          clear H1
          by_cases c13 : 0 ≤ x9_2
          ·rw [if_pos c13] at H
           have c13b0 : decide (0 ≤ x9_2) = true := decide_eq_true c13
           clear c13
           have H' := zqj H
           clear H
           obtain ⟨hcz14_0, hcz14_1, hcz14_2⟩ := zc3 BK225.out
           (obtain ⟨hfz14_0, hfz14_1, hfz14_2⟩ := zf3 BK225.out)
           have p229 : 0 ≤ (x7_1 : Int) := zqh zrs
           have q229 : x7_1 < (l0_0.length : Int) := zqh zrs
           obtain ⟨ad229, A229_1, c229_1, e229, hx229_0, hx229_1, hl229_1, hi229_1⟩ := at_T55 HR0_0.out x7_1 p229 q229
           cases e229
           replace hx229_0 := zx HB.out hx229_0
           replace hx229_1 := zx HB.out hx229_1
           have HR229_1 := zqj hi229_1
           have HC229_1 := zqj hl229_1
           clear hi229_1 hl229_1
           replace p229 := eq_true p229
           replace q229 := eq_true q229
           have p230 : 0 ≤ (x7_1 : Int) := zqh zrs
           have q230 : x7_1 < (l0_0.length : Int) := zqh zrs
           obtain ⟨ad230, A230_1, c230_1, e230, hx230_0, hx230_1, hl230_1, hi230_1⟩ := at_T55 HR0_0.out x7_1 p230 q230
           obtain rfl : ad229 = ad230 := (by injection e230)
           replace hx230_0 := zx HB.out hx230_0
           replace hx230_1 := zx HB.out hx230_1
           have HR230_1 := zqj hi230_1
           have HC230_1 := zqj hl230_1
           clear hi230_1 hl230_1
           replace p230 := eq_true p230
           replace q230 := eq_true q230
           have ea_ := Option.some.inj (hx229_1.symm.trans hx230_1)
           injection ea_ with ea_ en_ ec_
           (subst ea_; subst ec_; clear en_)
           have p231 : 0 ≤ (x9_2 : Int) := zqh zrs
           have q231 : x9_2 < (((rd_T55 l0_0 x7_1).f1).length : Int) := zqh zrs
           obtain ⟨ad231, A231_6, c231_6, e231, hx231_0, hx231_1, hx231_2, hx231_3, hx231_4, hx231_5, hx231_6, hl231_6, hi231_6⟩ := at_T58 HR230_1.out x9_2 p231 q231
           cases e231
           replace hx231_0 := zx HB.out hx231_0
           replace hx231_1 := zx HB.out hx231_1
           replace hx231_2 := zx HB.out hx231_2
           replace hx231_3 := zx HB.out hx231_3
           replace hx231_4 := zx HB.out hx231_4
           replace hx231_5 := zx HB.out hx231_5
           replace hx231_6 := zx HB.out hx231_6
           have HR231_6 := zqj hi231_6
           have HC231_6 := zqj hl231_6
           clear hi231_6 hl231_6
           replace p231 := eq_true p231
           replace q231 := eq_true q231
           go_wp2
           go_roundg k2
           case measure => have := HK1.out; have := HK2.out; omega
           case rel => exact ⟨(decide (((rd_T58 ((rd_T55 l0_0 x7_1).f1) x9_2).f0) > a1)), (wrap64 (x9_2 + 1)), zrt, zrt, H', ⟨by have := HK1.out; have := HK2.out; omega⟩, ⟨by (with_reducible repeat (first | apply Kd.R_alloc | apply Kd.R_drewN | apply Kd.R_drew)); exact HO_5.out⟩, ⟨by (with_reducible repeat (first | refine zqa ?_ _ | refine zqb ?_ | refine zqc ?_ _)); exact BK225.out⟩, ⟨by repeat (first | (with_reducible first | exact HB.out | apply zqg | apply zqe | apply zqf | refine zqd ?_ GE225.out) | exact HB.out)⟩⟩
          ·rw [if_neg c13] at H
           exact absurd H (by simp)
        ·rw [if_neg c10] at H
         have c10b0 : decide (x9_2 < (((rd_T55 l0_0 x7_1).f1).length : Int)) = false := decide_eq_false c10
         clear c10
         by_cases c15 : x8_2 = true
         ·subst c15
          have H1 : (if x5_1.length < 17592186044416 then (copyholdref12_Since.l0 k2 a1 (x5_1 ++ [(rd_T55 l0_0 x7_1).f0]) true (wrap64 (x7_1 + 1)) l0_0 l0_1 a0_2) else (none)) = some r := by rw [if_pos rfl] at H; exact H
          clear H
          have H := H1
          clear H1
          by_cases c16 : x5_1.length < 17592186044416
          ·rw [if_pos c16] at H
           have LMc16 := zqj c16
           clear c16
           obtain ⟨y233, hy233⟩ : ∃ y_ : List Int, y_ = (x5_1 ++ [(rd_T55 l0_0 x7_1).f0]) := ⟨_, rfl⟩
           replace H : (copyholdref12_Since.l0 k2 a1 y233 true (wrap64 (x7_1 + 1)) l0_0 l0_1 a0_2) = some r := by first | (rw [hy233]; with_reducible exact H) | (have H2_ := (Option.bind_some _ _).symm.trans H; rw [hy233]; with_reducible exact H2_) | (have H2_ := (Option.bind_some _ _).symm.trans H; with_reducible exact H2_) | with_reducible exact H | (rw [hy233]; exact H) | exact H
           have Ny233 := zqj hy233
           clear hy233
           have H' := zqj H
           clear H
           obtain ⟨hcz17_0, hcz17_1, hcz17_2⟩ := zc3 BK225.out
           (obtain ⟨hfz17_0, hfz17_1, hfz17_2⟩ := zf3 BK225.out)
           have p229 : 0 ≤ (x7_1 : Int) := zqh zrs
           have q229 : x7_1 < (l0_0.length : Int) := zqh zrs
           obtain ⟨ad229, A229_1, c229_1, e229, hx229_0, hx229_1, hl229_1, hi229_1⟩ := at_T55 HR0_0.out x7_1 p229 q229
           cases e229
           replace hx229_0 := zx HB.out hx229_0
           replace hx229_1 := zx HB.out hx229_1
           have HR229_1 := zqj hi229_1
           have HC229_1 := zqj hl229_1
           clear hi229_1 hl229_1
           replace p229 := eq_true p229
           replace q229 := eq_true q229
           have p232 : 0 ≤ (x7_1 : Int) := zqh zrs
           have q232 : x7_1 < (l0_0.length : Int) := zqh zrs
           obtain ⟨ad232, A232_1, c232_1, e232, hx232_0, hx232_1, hl232_1, hi232_1⟩ := at_T55 HR0_0.out x7_1 p232 q232
           obtain rfl : ad229 = ad232 := (by injection e232)
           replace hx232_0 := zx HB.out hx232_0
           replace hx232_1 := zx HB.out hx232_1
           have HR232_1 := zqj hi232_1
           have HC232_1 := zqj hl232_1
           clear hi232_1 hl232_1
           replace p232 := eq_true p232
           replace q232 := eq_true q232
           have ea_ := Option.some.inj (hx229_1.symm.trans hx232_1)
           injection ea_ with ea_ en_ ec_
           (subst ea_; subst ec_; clear en_)
           go_wp2_with (first | ((with_reducible refine gate_builtin (b := .append) (xs := #[.tmp 46, .tmp 53]) rfl ?_); at_builtin; refine Kd.R_append (Kd.int .i64) (w0 := w) w.heap.size rfl (.tmp 46) (.tmp 53) 28 3 (.int .i64 0) 8 rfl Try.underlying28 info3 rfl (by decide) (by omega) u5 x5_1 ((rd_T55 l0_0 x7_1).f0) [.int .i64 ((rd_T55 l0_0 x7_1).f0)] (fun _ => True) (fun _ => False) rfl rfl ?aP (fun _ hk => hk.elim) ?aF ?aO ?aB ?aS ?aL ?_; (case aP => exact rfl); (case aB => exact (zrd1 HB.out GE225.out)); (case aF => exact (fun _ _ => trivial)); (case aO => exact (zrR HO_5.out)); (case aS => exact (below_size (zrd1 HB.out GE225.out))); (case aL => have := LMc16.out; omega); intro v234 w18 ho hb hg hat; rw [← Ny233.out] at ho; have n0_ := zqj (blk_grown (g := gb225) (o := .cells #[.slice (some ad229) l0_0.length c0_0, .slice A0_1 l0_1.length c0_1, .int .i64 a0_2] 25 (0, 0)) (zrb BK225.out) hg (Kd.R_ne HO_5.out BK225.out (by decide))); have n1_ := zqj (hb); have n2_ := zqj (ho); clear BK225; clear HB; clear HO_5; have BK225 := n0_; have HB := n1_; have HO235 := n2_; clear n0_ n1_ n2_; clear ho hb hg hat))
           go_roundg k2
           case measure => have := HK1.out; have := HK2.out; omega
           case rel => exact ⟨(y233), (true), (wrap64 (x7_1 + 1)), zrt, zrt, H', ⟨by have := HK1.out; have := HK2.out; omega⟩, ⟨by (with_reducible repeat (first | apply Kd.R_alloc | apply Kd.R_drewN | apply Kd.R_drew)); exact HO235.out⟩, ⟨by (with_reducible repeat (first | refine zqa ?_ _ | refine zqb ?_ | refine zqc ?_ _)); exact BK225.out⟩, ⟨by repeat (first | (with_reducible first | exact HB.out | apply zqg | apply zqe | apply zqf | refine zqd ?_ GE225.out) | exact HB.out)⟩⟩
          ·rw [if_neg c16] at H
           exact absurd H (by simp)
         ·replace c15 := Bool.eq_false_iff.mpr c15
          subst c15
          have H1 : (copyholdref12_Since.l0 k2 a1 x5_1 x6_1 (wrap64 (x7_1 + 1)) l0_0 l0_1 a0_2) = some r := by rw [if_neg (show ¬ (false = true) by decide)] at H; exact H
          clear H
          have H := H1
          clear H1
          have H' := zqj H
          clear H
          obtain ⟨hcz19_0, hcz19_1, hcz19_2⟩ := zc3 BK225.out
          (obtain ⟨hfz19_0, hfz19_1, hfz19_2⟩ := zf3 BK225.out)
          have p229 : 0 ≤ (x7_1 : Int) := zqh zrs
          have q229 : x7_1 < (l0_0.length : Int) := zqh zrs
          obtain ⟨ad229, A229_1, c229_1, e229, hx229_0, hx229_1, hl229_1, hi229_1⟩ := at_T55 HR0_0.out x7_1 p229 q229
          cases e229
          replace hx229_0 := zx HB.out hx229_0
          replace hx229_1 := zx HB.out hx229_1
          have HR229_1 := zqj hi229_1
          have HC229_1 := zqj hl229_1
          clear hi229_1 hl229_1
          replace p229 := eq_true p229
          replace q229 := eq_true q229
          go_wp2
          go_roundg k2
          case measure => have := HK1.out; have := HK2.out; omega
          case rel => exact ⟨(x5_1), (x6_1), (wrap64 (x7_1 + 1)), zrt, zrt, H', ⟨by have := HK1.out; have := HK2.out; omega⟩, ⟨by (with_reducible repeat (first | apply Kd.R_alloc | apply Kd.R_drewN | apply Kd.R_drew)); exact HO_5.out⟩, ⟨by (with_reducible repeat (first | refine zqa ?_ _ | refine zqb ?_ | refine zqc ?_ _)); exact BK225.out⟩, ⟨by repeat (first | (with_reducible first | exact HB.out | apply zqg | apply zqe | apply zqf | refine zqd ?_ GE225.out) | exact HB.out)⟩⟩
       ·rw [if_neg c9] at H
        exact absurd H (by simp)
      ·rw [if_neg c8] at H
       exact absurd H (by simp)
   ·rw [if_neg c6] at H
    have c6b0 : decide (x7_1 < (l0_0.length : Int)) = false := decide_eq_false c6
    clear c6
    have H' := zqj H
    clear H
    obtain ⟨hcz20_0, hcz20_1, hcz20_2⟩ := zc3 BK225.out
    (obtain ⟨hfz20_0, hfz20_1, hfz20_2⟩ := zf3 BK225.out)
    go_wp2
    go_loopg [6, 10] k1 (fun kq v6 v10 w' => ∃ (x6_2 : Bool) (x10_2 : Int), v6 = .bool x6_2 ∧ v10 = .int .i64 x10_2 ∧ Aside0 (copyholdref12_Since.l2 kq a1 x5_1 x6_2 x10_2 l0_0 l0_1 a0_2 = some r) ∧ Aside0 (kq ≤ k1) ∧ Aside0 (Kd.R (Kd.int .i64) 3 w' w.heap.size (fun _ => True) u5 x5_1) ∧ Aside0 (w'.heap[gb225]? = some (.cells #[(.slice A0_0 l0_0.length c0_0), (.slice A0_1 l0_1.length c0_1), .int .i64 a0_2] 25 (0, 0))) ∧ Aside0 (Below w.heap.size w w'))
    case atStart => exact ⟨(x6_1), (0), zrt, zrt, H', ⟨Nat.le_refl _⟩, ⟨by (with_reducible repeat (first | apply Kd.R_alloc | apply Kd.R_drewN | apply Kd.R_drew)); exact HO_5.out⟩, ⟨by (with_reducible repeat (first | refine zqa ?_ _ | refine zqb ?_ | refine zqc ?_ _)); exact BK225.out⟩, ⟨by repeat (first | (with_reducible first | exact HB.out | apply zqg | apply zqe | apply zqf | refine zqd ?_ GE225.out) | exact HB.out)⟩⟩
    case round =>
     clear H'
     ((try clear c1); (try clear c2); (try clear p2); (try clear q2); (try clear hx2); (try clear c6); (try clear c6b0); (try clear p6); (try clear c8); (try clear c8b0); (try clear c9); (try clear c9b0); (try clear c10); (try clear c10b0); (try clear c11); (try clear c13); (try clear c13b0); (try clear c15); (try clear c16); (try clear c18); (try clear hcz12_0); (try clear hcz12_1); (try clear hcz12_2); (try clear hcz14_0); (try clear hcz14_1); (try clear hcz14_2); (try clear hcz17_0); (try clear hcz17_1); (try clear hcz17_2); (try clear hcz19_0); (try clear hcz19_1); (try clear hcz19_2); (try clear hcz20_0); (try clear hcz20_1); (try clear hcz20_2); (try clear hcz7_0); (try clear hcz7_1); (try clear hcz7_2); (try clear hfz12_0); (try clear hfz12_1); (try clear hfz12_2); (try clear hfz14_0); (try clear hfz14_1); (try clear hfz14_2); (try clear hfz17_0); (try clear hfz17_1); (try clear hfz17_2); (try clear hfz19_0); (try clear hfz19_1); (try clear hfz19_2); (try clear hfz20_0); (try clear hfz20_1); (try clear hfz20_2); (try clear hfz7_0); (try clear hfz7_1); (try clear hfz7_2); (try clear hx229_0); (try clear hx229_1); (try clear hx230_0); (try clear hx230_1); (try clear hx231_0); (try clear hx231_1); (try clear hx231_2); (try clear hx231_3); (try clear hx231_4); (try clear hx231_5); (try clear hx231_6); (try clear hx232_0); (try clear hx232_1); (try clear p2); (try clear p229); (try clear p230); (try clear p231); (try clear p232); (try clear q229); (try clear q230); (try clear q231); (try clear q232))
     obtain ⟨x6_2, x10_2, rfl, rfl, HA, HK2, HO_5, BK225, HB⟩ := hrel
     cases gk with
     | zero => exact absurd HA.out (by simp [copyholdref12_Since.l2])
     | succ k2 =>
      (have H := HA.out; clear HA)
      simp only [copyholdref12_Since.l2] at H
      by_cases c21 : x10_2 < (l0_1.length : Int)
      ·rw [if_pos c21] at H
       have c21b0 : decide (x10_2 < (l0_1.length : Int)) = true := decide_eq_true c21
       clear c21
       by_cases c22 : x6_2 = true
       ·subst c22
        have H1 : (copyholdref12_Since.l2 k2 a1 x5_1 true (wrap64 (x10_2 + 1)) l0_0 l0_1 a0_2) = some r := by rw [if_pos rfl] at H; exact H
        clear H
        have H := H1
        clear H1
        have H' := zqj H
        clear H
        obtain ⟨hcz23_0, hcz23_1, hcz23_2⟩ := zc3 BK225.out
        (obtain ⟨hfz23_0, hfz23_1, hfz23_2⟩ := zf3 BK225.out)
        go_wp2
        go_roundg k2
        case measure => have := HK1.out; have := HK2.out; omega
        case rel => exact ⟨(true), (wrap64 (x10_2 + 1)), zrt, zrt, H', ⟨by have := HK1.out; have := HK2.out; omega⟩, ⟨by (with_reducible repeat (first | apply Kd.R_alloc | apply Kd.R_drewN | apply Kd.R_drew)); exact HO_5.out⟩, ⟨by (with_reducible repeat (first | refine zqa ?_ _ | refine zqb ?_ | refine zqc ?_ _)); exact BK225.out⟩, ⟨by repeat (first | (with_reducible first | exact HB.out | apply zqg | apply zqe | apply zqf | refine zqd ?_ GE225.out) | exact HB.out)⟩⟩
       ·replace c22 := Bool.eq_false_iff.mpr c22
        subst c22
        have H1 : (if 0 ≤ x10_2 then (copyholdref12_Since.l2 k2 a1 x5_1 (decide (((rd_T61 l0_1 x10_2).f0) > a1)) (wrap64 (x10_2 + 1)) l0_0 l0_1 a0_2) else (none)) = some r := by rw [if_neg (show ¬ (false = true) by decide)] at H; exact H
        clear H
        have H := H1
        clear H1
        by_cases c24 : 0 ≤ x10_2
        ·rw [if_pos c24] at H
         have c24b0 : decide (0 ≤ x10_2) = true := decide_eq_true c24
         clear c24
         have H' := zqj H
         clear H
         obtain ⟨hcz25_0, hcz25_1, hcz25_2⟩ := zc3 BK225.out
         (obtain ⟨hfz25_0, hfz25_1, hfz25_2⟩ := zf3 BK225.out)
         have p236 : 0 ≤ (x10_2 : Int) := zqh zrs
         have q236 : x10_2 < (l0_1.length : Int) := zqh zrs
         obtain ⟨ad236, e236, hx236_0, hx236_1⟩ := at_T61 HR0_1.out x10_2 p236 q236
         cases e236
         replace hx236_0 := zx HB.out hx236_0
         replace hx236_1 := zx HB.out hx236_1
         replace p236 := eq_true p236
         replace q236 := eq_true q236
         go_wp2
         go_roundg k2
         case measure => have := HK1.out; have := HK2.out; omega
         case rel => exact ⟨(decide (((rd_T61 l0_1 x10_2).f0) > a1)), (wrap64 (x10_2 + 1)), zrt, zrt, H', ⟨by have := HK1.out; have := HK2.out; omega⟩, ⟨by (with_reducible repeat (first | apply Kd.R_alloc | apply Kd.R_drewN | apply Kd.R_drew)); exact HO_5.out⟩, ⟨by (with_reducible repeat (first | refine zqa ?_ _ | refine zqb ?_ | refine zqc ?_ _)); exact BK225.out⟩, ⟨by repeat (first | (with_reducible first | exact HB.out | apply zqg | apply zqe | apply zqf | refine zqd ?_ GE225.out) | exact HB.out)⟩⟩
        ·rw [if_neg c24] at H
         exact absurd H (by simp)
      ·rw [if_neg c21] at H
       have c21b0 : decide (x10_2 < (l0_1.length : Int)) = false := decide_eq_false c21
       clear c21
       by_cases c26 : x6_2 = true
       ·subst c26
        have H1 : (some x5_1) = some r := by rw [if_pos rfl] at H; exact H
        clear H
        have H := H1
        clear H1
        obtain rfl := Option.some.inj H
        obtain ⟨hcz27_0, hcz27_1, hcz27_2⟩ := zc3 BK225.out
        (obtain ⟨hfz27_0, hfz27_1, hfz27_2⟩ := zf3 BK225.out)
        go_wp2
        go_ret
        exact ⟨_, zru, by (with_reducible repeat (first | apply Kd.R_alloc | apply Kd.R_drewN | apply Kd.R_drew)); exact HO_5.out, by repeat (first | (with_reducible first | exact HB.out | apply zqg | apply zqe | apply zqf | refine zqd ?_ GE225.out) | exact HB.out)⟩
       ·replace c26 := Bool.eq_false_iff.mpr c26
        subst c26
        have H1 : (some ([] : List Int)) = some r := by rw [if_neg (show ¬ (false = true) by decide)] at H; exact H
        clear H
        have H := H1
        clear H1
        obtain rfl := Option.some.inj H
        obtain ⟨hcz28_0, hcz28_1, hcz28_2⟩ := zc3 BK225.out
        (obtain ⟨hfz28_0, hfz28_1, hfz28_2⟩ := zf3 BK225.out)
        go_wp2
        go_ret
        exact ⟨_, zru, by first | exact Kd.R_nil _ _ _ _ _ | exact Kd.N_nil _ _ _ _ _ | exact Kd.V_nil _ _ _ _ _ | exact Kd.Q_nil _ _ _ _ _ | exact Kd.S_nil _ _ _ _ _, by repeat (first | (with_reducible first | exact HB.out | apply zqg | apply zqe | apply zqf | refine zqd ?_ GE225.out) | exact HB.out)⟩
def copyholdref12_Many.l0 : Nat → Int → Int → List (S55) → List (S61) → Int → Option (Int)
 | 0, _, _, _, _, _ => none
 | k + 1, x3, x4, x238000, x238001, x238002 => if x4 < (x238000.length : Int) then (if 0 ≤ x4 then (copyholdref12_Many.l0 k (wrap64 (x3 + (((rd_T55 x238000 x4).f1).length : Int))) (wrap64 (x4 + 1)) x238000 x238001 x238002) else (none)) else (some x3)
def copyholdref12_Many.f (k : Nat) (l0_0 : List (S55)) (l0_1 : List (S61)) (a0_2 : Int) : Option (Int) := copyholdref12_Many.l0 k 0 0 l0_0 l0_1 a0_2
theorem copyholdref12_Many.mono_l : ∀ k, (∀ y0 y1 y2 y3 y4, LeO (copyholdref12_Many.l0 k y0 y1 y2 y3 y4) (copyholdref12_Many.l0 (k + 1) y0 y1 y2 y3 y4))
 | 0 => fun _ _ _ _ _ r h => by simp [copyholdref12_Many.l0] at h
 | k + 1 => by
  have ih0 := copyholdref12_Many.mono_l k
  ·intro y0 y1 y2 y3 y4
   unfold copyholdref12_Many.l0
   repeat' first
   | (with_reducible exact ih0 _ _ _ _ _)
   | (with_reducible exact LeO.refl _)
   | (with_reducible exact LeO.none _)
   | (with_reducible refine LeO.ite ?_ ?_)
   | (with_reducible refine LeO.bind ?_ (fun _ => ?_))
   | exact ih0 _ _ _ _ _
   | exact LeO.none _
   | refine LeO.ite ?_ ?_
   | refine LeO.bind ?_ (fun _ => ?_)
theorem copyholdref12_Many.mono : ∀ a0 a1 a2 k, LeO (copyholdref12_Many.f k a0 a1 a2) (copyholdref12_Many.f (k + 1) a0 a1 a2) := by
 intro a0 a1 a2 k
 have ih0 := copyholdref12_Many.mono_l k
 unfold copyholdref12_Many.f
 repeat' first
   | (with_reducible exact ih0 _ _ _ _ _)
   | (with_reducible exact LeO.refl _)
   | (with_reducible exact LeO.none _)
   | (with_reducible refine LeO.ite ?_ ?_)
   | (with_reducible refine LeO.bind ?_ (fun _ => ?_))
   | exact ih0 _ _ _ _ _
   | exact LeO.none _
   | refine LeO.ite ?_ ?_
   | refine LeO.bind ?_ (fun _ => ?_)
set_option maxHeartbeats 8000000 in
set_option maxRecDepth 100000 in
theorem copyholdref12_Many.calls (k : Nat) (A0_0 : Option Addr) (c0_0 : Nat) (l0_0 : List (S55)) (A0_1 : Option Addr) (c0_1 : Nat) (l0_1 : List (S61)) (a0_2 : Int) (r : Int) (w : World) (hr0_0 : Kd.C k55 w A0_0 l0_0.length l0_0) (hc0_0 : l0_0.length ≤ c0_0) (hr0_1 : Kd.C k61 w A0_1 l0_1.length l0_1) (hc0_1 : l0_1.length ≤ c0_1) (h : copyholdref12_Many.f k l0_0 l0_1 a0_2 = some r) :
  Calls Try.prog 20 #[.agg #[.slice A0_0 l0_0.length c0_0, .slice A0_1 l0_1.length c0_1, .int .i64 a0_2]] w fun e w' => e = .returned (.int .i64 r) ∧ Below w.heap.size w w' := by
 have hu25 := Try.underlying25
 have HR0_0 := zqj hr0_0
 have HC0_0 := zqj hc0_0
 clear hr0_0 hc0_0
 have HR0_1 := zqj hr0_1
 have HC0_1 := zqj hc0_1
 clear hr0_1 hc0_1
 have HB := zqj (Below.refl w.heap.size w)
 have H : (copyholdref12_Many.l0 k 0 0 l0_0 l0_1 a0_2) = some r := h
 clear h
 have H' := zqj H
 clear H
 go_enter Try.func20, Try.ntmps20
 go_wp2_with (first | ((with_reducible refine gate_dst (N := 1) rfl ?_); refine box_event ?hg (N := 1) ?hd (cs := #[.slice A0_0 l0_0.length c0_0, .slice A0_1 l0_1.length c0_1, .int .i64 a0_2]) (t := 25) ?hr ?_; (case hd => rfl); (case hg => rfl); (case hr => exact zrr); intro gb237 hg w2 hbox hb; have n0_ := zqj (below_step (zrd0 HB.out) hb); have n1_ := zqj (hbox); have n2_ : Aside0 (w.heap.size ≤ gb237) := ⟨by rw [hg]; exact below_size (zrd0 HB.out)⟩; have n3_ := n2_; clear HB; have HB := n0_; have BK237 := n1_; have GW237 := n2_; have GE237 := n3_; clear n0_ n1_ n2_ n3_; clear hb hbox hg))
 go_loopg [3, 4] k (fun kq v3 v4 w' => ∃ (x3_1 : Int) (x4_1 : Int), v3 = .int .i64 x3_1 ∧ v4 = .int .i64 x4_1 ∧ Aside0 (copyholdref12_Many.l0 kq x3_1 x4_1 l0_0 l0_1 a0_2 = some r) ∧ Aside0 (kq ≤ k) ∧ Aside0 (w'.heap[gb237]? = some (.cells #[(.slice A0_0 l0_0.length c0_0), (.slice A0_1 l0_1.length c0_1), .int .i64 a0_2] 25 (0, 0))) ∧ Aside0 (Below w.heap.size w w'))
 case atStart => exact ⟨(0), (0), zrt, zrt, H', ⟨Nat.le_refl _⟩, ⟨by (with_reducible repeat (first | refine zqa ?_ _ | refine zqb ?_ | refine zqc ?_ _)); exact BK237.out⟩, ⟨by repeat (first | (with_reducible first | exact HB.out | apply zqg | apply zqe | apply zqf | refine zqd ?_ GE237.out) | exact HB.out)⟩⟩
 case round =>
  clear H'
  ((try clear c2); (try clear p2))
  obtain ⟨x3_1, x4_1, rfl, rfl, HA, HK1, BK237, HB⟩ := hrel
  cases gk with
  | zero => exact absurd HA.out (by simp [copyholdref12_Many.l0])
  | succ k1 =>
   (have H := HA.out; clear HA)
   simp only [copyholdref12_Many.l0] at H
   by_cases c3 : x4_1 < (l0_0.length : Int)
   ·rw [if_pos c3] at H
    have c3b0 : decide (x4_1 < (l0_0.length : Int)) = true := decide_eq_true c3
    clear c3
    by_cases c4 : 0 ≤ x4_1
    ·rw [if_pos c4] at H
     have c4b0 : decide (0 ≤ x4_1) = true := decide_eq_true c4
     clear c4
     have H' := zqj H
     clear H
     obtain ⟨hcz5_0, hcz5_1, hcz5_2⟩ := zc3 BK237.out
     (obtain ⟨hfz5_0, hfz5_1, hfz5_2⟩ := zf3 BK237.out)
     have p238 : 0 ≤ (x4_1 : Int) := zqh zrs
     have q238 : x4_1 < (l0_0.length : Int) := zqh zrs
     obtain ⟨ad238, A238_1, c238_1, e238, hx238_0, hx238_1, hl238_1, hi238_1⟩ := at_T55 HR0_0.out x4_1 p238 q238
     cases e238
     replace hx238_0 := zx HB.out hx238_0
     replace hx238_1 := zx HB.out hx238_1
     have HR238_1 := zqj hi238_1
     have HC238_1 := zqj hl238_1
     clear hi238_1 hl238_1
     replace p238 := eq_true p238
     replace q238 := eq_true q238
     go_wp2
     go_roundg k1
     case measure => have := HK1.out; omega
     case rel => exact ⟨(wrap64 (x3_1 + (((rd_T55 l0_0 x4_1).f1).length : Int))), (wrap64 (x4_1 + 1)), zrt, zrt, H', ⟨by have := HK1.out; omega⟩, ⟨by (with_reducible repeat (first | refine zqa ?_ _ | refine zqb ?_ | refine zqc ?_ _)); exact BK237.out⟩, ⟨by repeat (first | (with_reducible first | exact HB.out | apply zqg | apply zqe | apply zqf | refine zqd ?_ GE237.out) | exact HB.out)⟩⟩
    ·rw [if_neg c4] at H
     exact absurd H (by simp)
   ·rw [if_neg c3] at H
    have c3b0 : decide (x4_1 < (l0_0.length : Int)) = false := decide_eq_false c3
    clear c3
    obtain rfl := Option.some.inj H
    obtain ⟨hcz6_0, hcz6_1, hcz6_2⟩ := zc3 BK237.out
    (obtain ⟨hfz6_0, hfz6_1, hfz6_2⟩ := zf3 BK237.out)
    go_wp2
    go_ret
    exact ⟨zru, by repeat (first | (with_reducible first | exact HB.out | apply zqg | apply zqe | apply zqf | refine zqd ?_ GE237.out) | exact HB.out)⟩
end Go.Proofs.Ytdkgkiemndlneaa.Q
end

section
namespace Go.Proofs.Ytdkgkiemndlneaa.Q
open Go.RowKit Go.Proofs.YtdkgkiemndlneaaW.PrintWords Go.Proofs.YtdkgkiemndlneaaW.PrintLast Go.Proofs.YtdkgkiemndlneaaW.PrintMore
attribute [local go_sem] max2_int min2_int max_two min_two max_three min_three max_four min_four   -- for this text's walks alone
open Go.Proofs.Ytdkgkiemndlneaa.X
attribute [local go_sem high] Go.Proofs.Ytdkgkiemndlneaa.px_xor_u8 Go.Proofs.Ytdkgkiemndlneaa.px_xor_u16 Go.Proofs.Ytdkgkiemndlneaa.px_xor_u32 Go.Proofs.Ytdkgkiemndlneaa.px_xor_u64
mutual
def copyholdlaw12_StoreLooks.j0 : Nat → Int → Bool → Bool → List (S55) → List (S61) → Int → List (S55) → List (S61) → Int → Option (Bool)
 | 0, _, _, _, _, _, _, _, _, _ => none
 | k + 1, x1, x7, x18, x240000, x240001, x240002, x241000, x241001, x241002 => if x18 = true then (some x7) else ((copyholdref12_Right.f k x240000 x240001 x240002).bind fun t244 => ((store_Right.f x240000 x240001 x240002).bind fun t245 => (if (t245 != t244) = true then (copyholdlaw12_StoreLooks.j1 k x1 x7 t244 true x240000 x240001 x240002 x241000 x241001 x241002) else (copyholdlaw12_StoreLooks.j1 k x1 x7 t244 (!t244) x240000 x240001 x240002 x241000 x241001 x241002))))
def copyholdlaw12_StoreLooks.j1 : Nat → Int → Bool → Bool → Bool → List (S55) → List (S61) → Int → List (S55) → List (S61) → Int → Option (Bool)
 | 0, _, _, _, _, _, _, _, _, _, _ => none
 | k + 1, x1, x7, x8, x29, x240000, x240001, x240002, x241000, x241001, x241002 => if x29 = true then (if x7 = true then ((store_Right.f x240000 x240001 x240002).bind fun t246 => (some (t246 == x8))) else (none)) else ((copyholdref12_Right.f k x241000 x241001 x241002).bind fun t247 => (if t247 = true then ((store_View.f k x240000 x240001 x240002 x1).bind fun bt248 => ((copyholdref12_View.f k x240000 x240001 x240002 x1).bind fun bt252 => ((copyholdref08_Same.f k bt248.1 bt248.2 bt252.1 bt252.2).bind fun t256 => (if t256 = true then ((store_Since.f k x240000 x240001 x240002 x1).bind fun t257 => ((copyholdref12_Since.f k x240000 x240001 x240002 x1).bind fun t260 => ((copyholdref11_Ints.f k t257 t260).bind fun t263 => (if x7 = true then (if t263 = true then ((store_Many.f k x240000 x240001 x240002).bind fun t264 => ((copyholdref12_Many.f k x240000 x240001 x240002).bind fun t265 => (if t264 = t265 then ((store_Same.f x240000 x240001 x240002 x241000 x241001 x241002).bind fun t266 => ((copyholdref12_Same.f x240000 x240001 x240002 x241000 x241001 x241002).bind fun t267 => (some (t266 == t267)))) else (none)))) else (none)) else (none))))) else (none))))) else (some x7)))
end
def copyholdlaw12_StoreLooks.f (k : Nat) (l0_0 : List (S55)) (l0_1 : List (S61)) (a0_2 : Int) (a1 : Int) (l2_0 : List (S55)) (l2_1 : List (S61)) (a2_2 : Int) : Option (Bool) := (copyholdlaw12_shown.f k).bind fun t241 => ((copyholdref12_Few.f k l0_0 l0_1 a0_2).bind fun t242 => (if t242 = true then ((copyholdref12_Few.f k l2_0 l2_1 a2_2).bind fun t243 => (copyholdlaw12_StoreLooks.j0 k a1 t241 (!t243) l0_0 l0_1 a0_2 l2_0 l2_1 a2_2)) else (copyholdlaw12_StoreLooks.j0 k a1 t241 true l0_0 l0_1 a0_2 l2_0 l2_1 a2_2)))
theorem copyholdlaw12_StoreLooks.mono_l : ∀ k, (∀ y0 y1 y2 y3 y4 y5 y6 y7 y8, LeO (copyholdlaw12_StoreLooks.j0 k y0 y1 y2 y3 y4 y5 y6 y7 y8) (copyholdlaw12_StoreLooks.j0 (k + 1) y0 y1 y2 y3 y4 y5 y6 y7 y8)) ∧ (∀ y0 y1 y2 y3 y4 y5 y6 y7 y8 y9, LeO (copyholdlaw12_StoreLooks.j1 k y0 y1 y2 y3 y4 y5 y6 y7 y8 y9) (copyholdlaw12_StoreLooks.j1 (k + 1) y0 y1 y2 y3 y4 y5 y6 y7 y8 y9))
 | 0 => ⟨fun _ _ _ _ _ _ _ _ _ r h => by simp [copyholdlaw12_StoreLooks.j0] at h, fun _ _ _ _ _ _ _ _ _ _ r h => by simp [copyholdlaw12_StoreLooks.j1] at h⟩
 | k + 1 => by
  obtain ⟨ih0, ih1⟩ := copyholdlaw12_StoreLooks.mono_l k
  refine ⟨?_, ?_⟩
  ·intro y0 y1 y2 y3 y4 y5 y6 y7 y8
   unfold copyholdlaw12_StoreLooks.j0
   repeat' first
   | (with_reducible exact ih0 _ _ _ _ _ _ _ _ _)
   | (with_reducible exact ih1 _ _ _ _ _ _ _ _ _ _)
   | (with_reducible exact copyholdlaw12_shown.mono _)
   | (with_reducible exact copyholdref08_Same.mono _ _ _ _ _)
   | (with_reducible exact copyholdref11_Ints.mono _ _ _)
   | (with_reducible exact copyholdref12_Few.mono _ _ _ _)
   | (with_reducible exact copyholdref12_Many.mono _ _ _ _)
   | (with_reducible exact copyholdref12_Right.mono _ _ _ _)
   | (with_reducible exact copyholdref12_Since.mono _ _ _ _ _)
   | (with_reducible exact copyholdref12_View.mono _ _ _ _ _)
   | (with_reducible exact store_Many.mono _ _ _ _)
   | (with_reducible exact store_Since.mono _ _ _ _ _)
   | (with_reducible exact store_View.mono _ _ _ _ _)
   | (with_reducible exact LeO.refl _)
   | (with_reducible exact LeO.none _)
   | (with_reducible refine LeO.ite ?_ ?_)
   | (with_reducible refine LeO.bind ?_ (fun _ => ?_))
   | exact ih0 _ _ _ _ _ _ _ _ _
   | exact ih1 _ _ _ _ _ _ _ _ _ _
   | exact copyholdlaw12_shown.mono _
   | exact copyholdref08_Same.mono _ _ _ _ _
   | exact copyholdref11_Ints.mono _ _ _
   | exact copyholdref12_Few.mono _ _ _ _
   | exact copyholdref12_Many.mono _ _ _ _
   | exact copyholdref12_Right.mono _ _ _ _
   | exact copyholdref12_Since.mono _ _ _ _ _
   | exact copyholdref12_View.mono _ _ _ _ _
   | exact store_Many.mono _ _ _ _
   | exact store_Since.mono _ _ _ _ _
   | exact store_View.mono _ _ _ _ _
   | exact LeO.none _
   | refine LeO.ite ?_ ?_
   | refine LeO.bind ?_ (fun _ => ?_)
  ·intro y0 y1 y2 y3 y4 y5 y6 y7 y8 y9
   unfold copyholdlaw12_StoreLooks.j1
   repeat' first
   | (with_reducible exact ih0 _ _ _ _ _ _ _ _ _)
   | (with_reducible exact ih1 _ _ _ _ _ _ _ _ _ _)
   | (with_reducible exact copyholdlaw12_shown.mono _)
   | (with_reducible exact copyholdref08_Same.mono _ _ _ _ _)
   | (with_reducible exact copyholdref11_Ints.mono _ _ _)
   | (with_reducible exact copyholdref12_Few.mono _ _ _ _)
   | (with_reducible exact copyholdref12_Many.mono _ _ _ _)
   | (with_reducible exact copyholdref12_Right.mono _ _ _ _)
   | (with_reducible exact copyholdref12_Since.mono _ _ _ _ _)
   | (with_reducible exact copyholdref12_View.mono _ _ _ _ _)
   | (with_reducible exact store_Many.mono _ _ _ _)
   | (with_reducible exact store_Since.mono _ _ _ _ _)
   | (with_reducible exact store_View.mono _ _ _ _ _)
   | (with_reducible exact LeO.refl _)
   | (with_reducible exact LeO.none _)
   | (with_reducible refine LeO.ite ?_ ?_)
   | (with_reducible refine LeO.bind ?_ (fun _ => ?_))
   | exact ih0 _ _ _ _ _ _ _ _ _
   | exact ih1 _ _ _ _ _ _ _ _ _ _
   | exact copyholdlaw12_shown.mono _
   | exact copyholdref08_Same.mono _ _ _ _ _
   | exact copyholdref11_Ints.mono _ _ _
   | exact copyholdref12_Few.mono _ _ _ _
   | exact copyholdref12_Many.mono _ _ _ _
   | exact copyholdref12_Right.mono _ _ _ _
   | exact copyholdref12_Since.mono _ _ _ _ _
   | exact copyholdref12_View.mono _ _ _ _ _
   | exact store_Many.mono _ _ _ _
   | exact store_Since.mono _ _ _ _ _
   | exact store_View.mono _ _ _ _ _
   | exact LeO.none _
   | refine LeO.ite ?_ ?_
   | refine LeO.bind ?_ (fun _ => ?_)
theorem copyholdlaw12_StoreLooks.mono : ∀ a0 a1 a2 a3 a4 a5 a6 k, LeO (copyholdlaw12_StoreLooks.f k a0 a1 a2 a3 a4 a5 a6) (copyholdlaw12_StoreLooks.f (k + 1) a0 a1 a2 a3 a4 a5 a6) := by
 intro a0 a1 a2 a3 a4 a5 a6 k
 obtain ⟨ih0, ih1⟩ := copyholdlaw12_StoreLooks.mono_l k
 unfold copyholdlaw12_StoreLooks.f
 repeat' first
   | (with_reducible exact ih0 _ _ _ _ _ _ _ _ _)
   | (with_reducible exact ih1 _ _ _ _ _ _ _ _ _ _)
   | (with_reducible exact copyholdlaw12_shown.mono _)
   | (with_reducible exact copyholdref08_Same.mono _ _ _ _ _)
   | (with_reducible exact copyholdref11_Ints.mono _ _ _)
   | (with_reducible exact copyholdref12_Few.mono _ _ _ _)
   | (with_reducible exact copyholdref12_Many.mono _ _ _ _)
   | (with_reducible exact copyholdref12_Right.mono _ _ _ _)
   | (with_reducible exact copyholdref12_Since.mono _ _ _ _ _)
   | (with_reducible exact copyholdref12_View.mono _ _ _ _ _)
   | (with_reducible exact store_Many.mono _ _ _ _)
   | (with_reducible exact store_Since.mono _ _ _ _ _)
   | (with_reducible exact store_View.mono _ _ _ _ _)
   | (with_reducible exact LeO.refl _)
   | (with_reducible exact LeO.none _)
   | (with_reducible refine LeO.ite ?_ ?_)
   | (with_reducible refine LeO.bind ?_ (fun _ => ?_))
   | exact ih0 _ _ _ _ _ _ _ _ _
   | exact ih1 _ _ _ _ _ _ _ _ _ _
   | exact copyholdlaw12_shown.mono _
   | exact copyholdref08_Same.mono _ _ _ _ _
   | exact copyholdref11_Ints.mono _ _ _
   | exact copyholdref12_Few.mono _ _ _ _
   | exact copyholdref12_Many.mono _ _ _ _
   | exact copyholdref12_Right.mono _ _ _ _
   | exact copyholdref12_Since.mono _ _ _ _ _
   | exact copyholdref12_View.mono _ _ _ _ _
   | exact store_Many.mono _ _ _ _
   | exact store_Since.mono _ _ _ _ _
   | exact store_View.mono _ _ _ _ _
   | exact LeO.none _
   | refine LeO.ite ?_ ?_
   | refine LeO.bind ?_ (fun _ => ?_)
def copyholdlaw12_StoreLooks.T9 : Bool × List (List Nat × List Nat) := (true, [([], []), ([], []), ([0, 1], [0, 1]), ([], []), ([], []), ([3, 4, 2], [3, 4]), ([2, 5, 5], [2, 5]), ([6, 6], [6]), ([7], [7]), ([7], [7]), ([8, 9, 7, 7], [7, 8, 9]), ([7], [7]), ([7], [7]), ([11, 12, 10, 7], [7, 11, 12]), ([10, 13, 13, 7], [7, 10, 13]), ([7, 14], [7, 14]), ([15, 14, 0, 1, 2, 3, 4, 5, 6, 7, 8, 9, 10, 11, 12, 13, 14, 15], [15])])
def copyholdlaw12_StoreLooks.B9 : List Nat := [0, 0, 3, 0, 0, 31, 63, 127, 255, 255, 1023, 255, 255, 8191, 16383, 32767, 65535]
theorem copyholdlaw12_StoreLooks.tab9 : rtab .any (opsOf Try.f4 9) = copyholdlaw12_StoreLooks.T9 := by kernel_rfl
theorem copyholdlaw12_StoreLooks.bits9 : waitsOk copyholdlaw12_StoreLooks.T9.2 copyholdlaw12_StoreLooks.B9 = true := by kernel_rfl
def copyholdlaw12_StoreLooks.T10 : Bool × List (List Nat × List Nat) := (true, [([], []), ([0], [0]), ([1], [1]), ([1, 2], [1, 2]), ([3, 1], [3]), ([4], [4]), ([5, 4, 4], [4, 5]), ([4], [4]), ([7, 6, 4], [4, 7]), ([6, 8, 4], [4, 6, 8]), ([4, 9], [4, 9]), ([10, 8], [10]), ([11], [11]), ([11], [11]), ([12, 13, 11, 11], [11, 12, 13]), ([11], [11]), ([11], [11]), ([15, 16, 14, 11], [11, 15, 16]), ([14, 17, 11], [11, 14, 17]), ([11, 18], [11, 18]), ([19, 17, 0, 1, 2, 3, 4, 5, 6, 7, 8, 9, 10, 11, 12, 13, 14, 15, 16, 17, 18, 19], [19])])
def copyholdlaw12_StoreLooks.B10 : List Nat := [0, 1, 3, 7, 15, 31, 63, 31, 255, 511, 1023, 2047, 4095, 4095, 16383, 4095, 4095, 131071, 262143, 524287, 1048575]
theorem copyholdlaw12_StoreLooks.tab10 : rtab .any (opsOf Try.f4 10) = copyholdlaw12_StoreLooks.T10 := by kernel_rfl
theorem copyholdlaw12_StoreLooks.bits10 : waitsOk copyholdlaw12_StoreLooks.T10.2 copyholdlaw12_StoreLooks.B10 = true := by kernel_rfl
set_option maxHeartbeats 8000000 in
set_option maxRecDepth 100000 in
theorem copyholdlaw12_StoreLooks.calls (k : Nat) (A0_0 : Option Addr) (c0_0 : Nat) (l0_0 : List (S55)) (A0_1 : Option Addr) (c0_1 : Nat) (l0_1 : List (S61)) (a0_2 : Int) (a1 : Int) (A2_0 : Option Addr) (c2_0 : Nat) (l2_0 : List (S55)) (A2_1 : Option Addr) (c2_1 : Nat) (l2_1 : List (S61)) (a2_2 : Int) (r : Bool) (w : World) (hr0_0 : Kd.C k55 w A0_0 l0_0.length l0_0) (hc0_0 : l0_0.length ≤ c0_0) (hr0_1 : Kd.C k61 w A0_1 l0_1.length l0_1) (hc0_1 : l0_1.length ≤ c0_1) (hr2_0 : Kd.C k55 w A2_0 l2_0.length l2_0) (hc2_0 : l2_0.length ≤ c2_0) (hr2_1 : Kd.C k61 w A2_1 l2_1.length l2_1) (hc2_1 : l2_1.length ≤ c2_1) (h : copyholdlaw12_StoreLooks.f k l0_0 l0_1 a0_2 a1 l2_0 l2_1 a2_2 = some r) :
  Calls Try.prog 4 #[.agg #[.slice A0_0 l0_0.length c0_0, .slice A0_1 l0_1.length c0_1, .int .i64 a0_2], .int .i64 a1, .agg #[.slice A2_0 l2_0.length c2_0, .slice A2_1 l2_1.length c2_1, .int .i64 a2_2]] w fun e w' => e = .returned (.bool r) ∧ Below w.heap.size w w' := by
 have hu25 := Try.underlying25
 have HR0_0 := zqj hr0_0
 have HC0_0 := zqj hc0_0
 clear hr0_0 hc0_0
 have HR0_1 := zqj hr0_1
 have HC0_1 := zqj hc0_1
 clear hr0_1 hc0_1
 have HR2_0 := zqj hr2_0
 have HC2_0 := zqj hc2_0
 clear hr2_0 hc2_0
 have HR2_1 := zqj hr2_1
 have HC2_1 := zqj hc2_1
 clear hr2_1 hc2_1
 have HB := zqj (Below.refl w.heap.size w)
 have H : ((copyholdlaw12_shown.f k).bind fun t241 => ((copyholdref12_Few.f k l0_0 l0_1 a0_2).bind fun t242 => (if t242 = true then ((copyholdref12_Few.f k l2_0 l2_1 a2_2).bind fun t243 => (copyholdlaw12_StoreLooks.j0 k a1 t241 (!t243) l0_0 l0_1 a0_2 l2_0 l2_1 a2_2)) else (copyholdlaw12_StoreLooks.j0 k a1 t241 true l0_0 l0_1 a0_2 l2_0 l2_1 a2_2)))) = some r := h
 clear h
 replace H := zqn H
 obtain ⟨t241, A40, H⟩ := H
 replace H : ((copyholdref12_Few.f k l0_0 l0_1 a0_2).bind fun t242 => (if t242 = true then ((copyholdref12_Few.f k l2_0 l2_1 a2_2).bind fun t243 => (copyholdlaw12_StoreLooks.j0 k a1 t241 (!t243) l0_0 l0_1 a0_2 l2_0 l2_1 a2_2)) else (copyholdlaw12_StoreLooks.j0 k a1 t241 true l0_0 l0_1 a0_2 l2_0 l2_1 a2_2))) = some r := H
 have A4 := zqj A40
 clear A40
 have HC5 := zqj H
 clear H
 go_enter Try.func4, Try.ntmps4
 go_upto_region 2 with (first | ((with_reducible refine gate_dst (N := 3) rfl ?_); refine box_event ?hg (N := 3) ?hd (cs := #[.slice A0_0 l0_0.length c0_0, .slice A0_1 l0_1.length c0_1, .int .i64 a0_2]) (t := 25) ?hr ?_; (case hd => rfl); (case hg => rfl); (case hr => exact zrr); intro gb239 hg w6 hbox hb; have n0_ := zqj (below_step (zrd0 HB.out) hb); have n1_ := zqj (hbox); have n2_ : Aside0 (w.heap.size ≤ gb239) := ⟨by rw [hg]; exact below_size (zrd0 HB.out)⟩; have n3_ := n2_; clear HB; have HB := n0_; have BK239 := n1_; have GW239 := n2_; have GE239 := n3_; clear n0_ n1_ n2_ n3_; clear hb hbox hg) | ((with_reducible refine gate_dst (N := 5) rfl ?_); refine box_event ?hg (N := 5) ?hd (cs := #[.slice A2_0 l2_0.length c2_0, .slice A2_1 l2_1.length c2_1, .int .i64 a2_2]) (t := 25) ?hr ?_; (case hd => rfl); (case hg => rfl); (case hr => exact zrr); intro gb240 hg w7 hbox hb; have n0_ := zqj (blk_below (g := gb239) (o := .cells #[.slice A0_0 l0_0.length c0_0, .slice A0_1 l0_1.length c0_1, .int .i64 a0_2] 25 (0, 0)) (zrb BK239.out) hb); have n1_ := zqj (below_step (zrd1 HB.out GE239.out) hb); have n2_ := zqj (hbox); have n3_ := zqj ((by rw [hg]; exact (below_size (zrd1 HB.out GE239.out)) : w.heap.size ≤ gb240)); have n4_ := zqj ((by rw [hg]; exact (below_size (zrd1 HB.out GE239.out)) : w.heap.size ≤ gb240)); have n5_ := zqj ((by rw [hg]; exact Nat.ne_of_lt (blk_lt (g := gb239) (o := .cells #[.slice A0_0 l0_0.length c0_0, .slice A0_1 l0_1.length c0_1, .int .i64 a0_2] 25 (0, 0)) (zrb BK239.out)) : gb239 ≠ gb240)); have n6_ := zqj ((by rw [hg]; exact Nat.ne_of_gt (blk_lt (g := gb239) (o := .cells #[.slice A0_0 l0_0.length c0_0, .slice A0_1 l0_1.length c0_1, .int .i64 a0_2] 25 (0, 0)) (zrb BK239.out)) : gb240 ≠ gb239)); clear BK239; clear HB; have BK239 := n0_; have HB := n1_; have BK240 := n2_; have GW240 := n3_; have GE240 := n4_; have NB239_240 := n5_; have NB240_239 := n6_; clear n0_ n1_ n2_ n3_ n4_ n5_ n6_; clear hb hbox hg) | ((with_reducible refine gate_callee (f := 8) rfl ?_); refine goesL_ (some 10) rfl rfl Try.func8 (by kernel_rfl) rfl #[] rfl zra ?_; (with_reducible refine (copyholdlaw12_shown.calls k  t241 _ A4.out).mono ?_); rintro e w8 ⟨rfl, hb⟩; refine ⟨_, rfl, ?_⟩; replace BK239 := zqj (blk_below (g := gb239) (o := .cells #[.slice A0_0 l0_0.length c0_0, .slice A0_1 l0_1.length c0_1, .int .i64 a0_2] 25 (0, 0)) (zrb BK239.out) hb); replace BK240 := zqj (blk_below (g := gb240) (o := .cells #[.slice A2_0 l2_0.length c2_0, .slice A2_1 l2_1.length c2_1, .int .i64 a2_2] 25 (0, 0)) (zrb BK240.out) hb); replace HB := zqj (below_step (zrd2 HB.out GE239.out GE240.out) hb); (try clear hb); (try clear hb2); (try clear hk); (try clear hi)))
 (try simp only [Act.put, zqk, zql, zqm])
 go_cut [18] (fun v18 wc => ∃ (kq : Nat) (x18_4 : Bool), v18 = .bool x18_4 ∧ Aside0 (copyholdlaw12_StoreLooks.j0 kq a1 t241 x18_4 l0_0 l0_1 a0_2 l2_0 l2_1 a2_2 = some r) ∧ Aside0 (kq ≤ k) ∧ Aside0 (wc.heap[gb239]? = some (.cells #[(.slice A0_0 l0_0.length c0_0), (.slice A0_1 l0_1.length c0_1), .int .i64 a0_2] 25 (0, 0))) ∧ Aside0 (wc.heap[gb240]? = some (.cells #[(.slice A2_0 l2_0.length c2_0), (.slice A2_1 l2_1.length c2_1), .int .i64 a2_2] 25 (0, 0))) ∧ Aside0 (Below w.heap.size w wc))
 case first =>
  (have H := HC5.out; clear HC5)
  replace H := zqn H
  obtain ⟨t242, A90, H⟩ := H
  replace H : (if t242 = true then ((copyholdref12_Few.f k l2_0 l2_1 a2_2).bind fun t243 => (copyholdlaw12_StoreLooks.j0 k a1 t241 (!t243) l0_0 l0_1 a0_2 l2_0 l2_1 a2_2)) else (copyholdlaw12_StoreLooks.j0 k a1 t241 true l0_0 l0_1 a0_2 l2_0 l2_1 a2_2)) = some r := H
  have A9 := zqj A90
  clear A90
  by_cases c10 : t242 = true
  ·subst c10
   have H1 : ((copyholdref12_Few.f k l2_0 l2_1 a2_2).bind fun t243 => (copyholdlaw12_StoreLooks.j0 k a1 t241 (!t243) l0_0 l0_1 a0_2 l2_0 l2_1 a2_2)) = some r := by rw [if_pos rfl] at H; exact H
   clear H
   have H := H1
   clear H1
   replace H := zqn H
   obtain ⟨t243, A110, H⟩ := H
   replace H : (copyholdlaw12_StoreLooks.j0 k a1 t241 (!t243) l0_0 l0_1 a0_2 l2_0 l2_1 a2_2) = some r := H
   have A11 := zqj A110
   clear A110
   have H' := zqj H
   clear H
   have hnb12 := NB239_240.out
   have hnc12 := NB240_239.out
   obtain ⟨hcz13_0, hcz13_1, hcz13_2⟩ := zc3 BK239.out
   (obtain ⟨hfz13_0, hfz13_1, hfz13_2⟩ := zf3 BK239.out)
   go_wp2_with (first | ((with_reducible refine gate_callee (f := 9) rfl ?_); refine goesL_ (some 12) rfl rfl Try.func9 (by kernel_rfl) rfl #[.agg #[.slice A0_0 l0_0.length c0_0, .slice A0_1 l0_1.length c0_1, .int .i64 a0_2]] rfl zra ?_; (with_reducible refine (copyholdref12_Few.calls k _ _ l0_0 _ _ l0_1 a0_2 true _ ?side1 ?side2 ?side3 ?side4 A9.out).mono ?_); (case side1 => exact zrc (Kd.C_below HR0_0.out HB.out)); (case side2 => exact HC0_0.out); (case side3 => exact zrc (Kd.C_below HR0_1.out HB.out)); (case side4 => exact HC0_1.out); rintro e w14 ⟨rfl, hb⟩; refine ⟨_, rfl, ?_⟩; have n0_ := zqj (blk_below (g := gb239) (o := .cells #[.slice A0_0 l0_0.length c0_0, .slice A0_1 l0_1.length c0_1, .int .i64 a0_2] 25 (0, 0)) (zrb BK239.out) hb); have n1_ := zqj (blk_below (g := gb240) (o := .cells #[.slice A2_0 l2_0.length c2_0, .slice A2_1 l2_1.length c2_1, .int .i64 a2_2] 25 (0, 0)) (zrb BK240.out) hb); have n2_ := zqj (below_step (zrd2 HB.out GE239.out GE240.out) hb); clear BK239; clear BK240; clear HB; have BK239 := n0_; have BK240 := n1_; have HB := n2_; clear n0_ n1_ n2_; (try clear hb); (try clear hb2); (try clear hk); (try clear hi); obtain ⟨hcz15_0, hcz15_1, hcz15_2⟩ := zc3 BK240.out; obtain ⟨hfz15_0, hfz15_1, hfz15_2⟩ := zf3 BK240.out) | (go_at_call 9; (with_reducible refine (copyholdref12_Few.calls k _ _ l2_0 _ _ l2_1 a2_2 t243 _ ?side1 ?side2 ?side3 ?side4 A11.out).mono ?_); (case side1 => exact zrc (Kd.C_below HR2_0.out HB.out)); (case side2 => exact HC2_0.out); (case side3 => exact zrc (Kd.C_below HR2_1.out HB.out)); (case side4 => exact HC2_1.out); rintro e w16 ⟨rfl, hb⟩; have n0_ := zqj (blk_below (g := gb239) (o := .cells #[.slice A0_0 l0_0.length c0_0, .slice A0_1 l0_1.length c0_1, .int .i64 a0_2] 25 (0, 0)) (zrb BK239.out) hb); have n1_ := zqj (blk_below (g := gb240) (o := .cells #[.slice A2_0 l2_0.length c2_0, .slice A2_1 l2_1.length c2_1, .int .i64 a2_2] 25 (0, 0)) (zrb BK240.out) hb); have n2_ := zqj (below_step (zrd2 HB.out GE239.out GE240.out) hb); clear BK239; clear BK240; clear HB; have BK239 := n0_; have BK240 := n1_; have HB := n2_; clear n0_ n1_ n2_; (try clear hb); (try clear hb2); (try clear hk); (try clear hi)))
   go_meet
   case rel => exact ⟨_, (!t243), zrt, H', ⟨by first | omega | exact Nat.le_refl _⟩, ⟨by (with_reducible repeat (first | refine zqa ?_ _ | refine zqb ?_ | refine zqc ?_ _)); exact BK239.out⟩, ⟨by (with_reducible repeat (first | refine zqa ?_ _ | refine zqb ?_ | refine zqc ?_ _)); exact BK240.out⟩, ⟨by repeat (first | (with_reducible first | exact HB.out | apply zqg | apply zqe | apply zqf | refine zqd ?_ GE239.out | refine zqd ?_ GE240.out) | exact HB.out)⟩⟩
  ·replace c10 := Bool.eq_false_iff.mpr c10
   subst c10
   have H1 : (copyholdlaw12_StoreLooks.j0 k a1 t241 true l0_0 l0_1 a0_2 l2_0 l2_1 a2_2) = some r := by rw [if_neg (show ¬ (false = true) by decide)] at H; exact H
   clear H
   have H := H1
   clear H1
   have H' := zqj H
   clear H
   have hnb17 := NB239_240.out
   have hnc17 := NB240_239.out
   obtain ⟨hcz18_0, hcz18_1, hcz18_2⟩ := zc3 BK239.out
   (obtain ⟨hfz18_0, hfz18_1, hfz18_2⟩ := zf3 BK239.out)
   go_wp2_with (first | ((with_reducible refine gate_callee (f := 9) rfl ?_); refine goesL_ (some 12) rfl rfl Try.func9 (by kernel_rfl) rfl #[.agg #[.slice A0_0 l0_0.length c0_0, .slice A0_1 l0_1.length c0_1, .int .i64 a0_2]] rfl zra ?_; (with_reducible refine (copyholdref12_Few.calls k _ _ l0_0 _ _ l0_1 a0_2 false _ ?side1 ?side2 ?side3 ?side4 A9.out).mono ?_); (case side1 => exact zrc (Kd.C_below HR0_0.out HB.out)); (case side2 => exact HC0_0.out); (case side3 => exact zrc (Kd.C_below HR0_1.out HB.out)); (case side4 => exact HC0_1.out); rintro e w19 ⟨rfl, hb⟩; refine ⟨_, rfl, ?_⟩; replace BK239 := zqj (blk_below (g := gb239) (o := .cells #[.slice A0_0 l0_0.length c0_0, .slice A0_1 l0_1.length c0_1, .int .i64 a0_2] 25 (0, 0)) (zrb BK239.out) hb); replace BK240 := zqj (blk_below (g := gb240) (o := .cells #[.slice A2_0 l2_0.length c2_0, .slice A2_1 l2_1.length c2_1, .int .i64 a2_2] 25 (0, 0)) (zrb BK240.out) hb); replace HB := zqj (below_step (zrd2 HB.out GE239.out GE240.out) hb); (try clear hb); (try clear hb2); (try clear hk); (try clear hi)))
   go_meet
   case rel => exact ⟨_, (true), zrt, H', ⟨by first | omega | exact Nat.le_refl _⟩, ⟨by (with_reducible repeat (first | refine zqa ?_ _ | refine zqb ?_ | refine zqc ?_ _)); exact BK239.out⟩, ⟨by (with_reducible repeat (first | refine zqa ?_ _ | refine zqb ?_ | refine zqc ?_ _)); exact BK240.out⟩, ⟨by repeat (first | (with_reducible first | exact HB.out | apply zqg | apply zqe | apply zqf | refine zqd ?_ GE239.out | refine zqd ?_ GE240.out) | exact HB.out)⟩⟩
 case rest =>
  (clear HC5; (try clear c1); (try clear c2); (try clear p2); (try clear c4); (try clear c8); (try clear c9); (try clear c10); (try clear c12); (try clear c17); (try clear hcz13_0); (try clear hcz13_1); (try clear hcz13_2); (try clear hcz15_0); (try clear hcz15_1); (try clear hcz15_2); (try clear hcz18_0); (try clear hcz18_1); (try clear hcz18_2); (try clear hfz13_0); (try clear hfz13_1); (try clear hfz13_2); (try clear hfz15_0); (try clear hfz15_1); (try clear hfz15_2); (try clear hfz18_0); (try clear hfz18_1); (try clear hfz18_2))
  obtain ⟨kq, x18_4, rfl, HA, HJ4, BK239, BK240, HB⟩ := hcut
  cases kq with
  | zero => exact absurd HA.out (by simp [copyholdlaw12_StoreLooks.j0])
  | succ kj4 =>
   (have H := HA.out; clear HA)
   simp only [copyholdlaw12_StoreLooks.j0] at H
   by_cases c20 : x18_4 = true
   ·subst c20
    have H1 : (some t241) = some r := by rw [if_pos rfl] at H; exact H
    clear H
    have H := H1
    clear H1
    obtain rfl := Option.some.inj H
    go_wp2
    go_ret
    exact ⟨zru, by repeat (first | (with_reducible first | exact HB.out | apply zqg | apply zqe | apply zqf | refine zqd ?_ GE239.out | refine zqd ?_ GE240.out) | exact HB.out)⟩
   ·replace c20 := Bool.eq_false_iff.mpr c20
    subst c20
    have H1 : ((copyholdref12_Right.f kj4 l0_0 l0_1 a0_2).bind fun t244 => ((store_Right.f l0_0 l0_1 a0_2).bind fun t245 => (if (t245 != t244) = true then (copyholdlaw12_StoreLooks.j1 kj4 a1 t241 t244 true l0_0 l0_1 a0_2 l2_0 l2_1 a2_2) else (copyholdlaw12_StoreLooks.j1 kj4 a1 t241 t244 (!t244) l0_0 l0_1 a0_2 l2_0 l2_1 a2_2)))) = some r := by rw [if_neg (show ¬ (false = true) by decide)] at H; exact H
    clear H
    have H := H1
    clear H1
    replace H := zqn H
    obtain ⟨t244, A210, H⟩ := H
    replace H : ((store_Right.f l0_0 l0_1 a0_2).bind fun t245 => (if (t245 != t244) = true then (copyholdlaw12_StoreLooks.j1 kj4 a1 t241 t244 true l0_0 l0_1 a0_2 l2_0 l2_1 a2_2) else (copyholdlaw12_StoreLooks.j1 kj4 a1 t241 t244 (!t244) l0_0 l0_1 a0_2 l2_0 l2_1 a2_2))) = some r := H
    have A21 := zqj A210
    clear A210
    have HC22 := zqj H
    clear H
    have hnb23 := NB239_240.out
    have hnc23 := NB240_239.out
    obtain ⟨hcz24_0, hcz24_1, hcz24_2⟩ := zc3 BK239.out
    (obtain ⟨hfz24_0, hfz24_1, hfz24_2⟩ := zf3 BK239.out)
    go_upto_region 5 with (first | ((with_reducible refine gate_callee (f := 10) rfl ?_); refine goesL_ (some 21) rfl rfl Try.func10 (by kernel_rfl) rfl #[.agg #[.slice A0_0 l0_0.length c0_0, .slice A0_1 l0_1.length c0_1, .int .i64 a0_2]] rfl zra ?_; (with_reducible refine (copyholdref12_Right.calls kj4 _ _ l0_0 _ _ l0_1 a0_2 t244 _ ?side1 ?side2 ?side3 ?side4 A21.out).mono ?_); (case side1 => exact zrc (Kd.C_below HR0_0.out HB.out)); (case side2 => exact HC0_0.out); (case side3 => exact zrc (Kd.C_below HR0_1.out HB.out)); (case side4 => exact HC0_1.out); rintro e w25 ⟨rfl, hb⟩; refine ⟨_, rfl, ?_⟩; replace BK239 := zqj (blk_below (g := gb239) (o := .cells #[.slice A0_0 l0_0.length c0_0, .slice A0_1 l0_1.length c0_1, .int .i64 a0_2] 25 (0, 0)) (zrb BK239.out) hb); replace BK240 := zqj (blk_below (g := gb240) (o := .cells #[.slice A2_0 l2_0.length c2_0, .slice A2_1 l2_1.length c2_1, .int .i64 a2_2] 25 (0, 0)) (zrb BK240.out) hb); replace HB := zqj (below_step (zrd2 HB.out GE239.out GE240.out) hb); (try clear hb); (try clear hb2); (try clear hk); (try clear hi)))
    (try simp only [Act.put, zqk, zql, zqm])
    go_cut [29] (fun v29 wc => ∃ (kq : Nat) (x29_21 : Bool), v29 = .bool x29_21 ∧ Aside0 (copyholdlaw12_StoreLooks.j1 kq a1 t241 t244 x29_21 l0_0 l0_1 a0_2 l2_0 l2_1 a2_2 = some r) ∧ Aside0 (kq ≤ kj4) ∧ Aside0 (wc.heap[gb239]? = some (.cells #[(.slice A0_0 l0_0.length c0_0), (.slice A0_1 l0_1.length c0_1), .int .i64 a0_2] 25 (0, 0))) ∧ Aside0 (wc.heap[gb240]? = some (.cells #[(.slice A2_0 l2_0.length c2_0), (.slice A2_1 l2_1.length c2_1), .int .i64 a2_2] 25 (0, 0))) ∧ Aside0 (Below w.heap.size w wc))
    case first =>
     (have H := HC22.out; clear HC22)
     replace H := zqn H
     obtain ⟨t245, A260, H⟩ := H
     replace H : (if (t245 != t244) = true then (copyholdlaw12_StoreLooks.j1 kj4 a1 t241 t244 true l0_0 l0_1 a0_2 l2_0 l2_1 a2_2) else (copyholdlaw12_StoreLooks.j1 kj4 a1 t241 t244 (!t244) l0_0 l0_1 a0_2 l2_0 l2_1 a2_2)) = some r := H
     have A26 := zqj A260
     clear A260
     by_cases c27 : (t245 != t244) = true
     ·rw [if_pos c27] at H
      have c27b0 : (t245 != t244) = true := c27
      (try (have c27b1 : decide (t245 = t244) = false := by simpa using c27))
      (try (have c27b2 : (t245 == t244) = false := by simpa using c27))
      (try (have c27b3 : ¬ (t245 = t244) := by simpa using c27))
      clear c27
      (first | rw [c27b0] | (simp only [i64_w, i32_w]; rw [c27b0]) | skip)
      have H' := zqj H
      clear H
      have hnb28 := NB239_240.out
      have hnc28 := NB240_239.out
      obtain ⟨hcz29_0, hcz29_1, hcz29_2⟩ := zc3 BK239.out
      (obtain ⟨hfz29_0, hfz29_1, hfz29_2⟩ := zf3 BK239.out)
      go_wp2_with (first | ((with_reducible refine gate_callee (f := 14) rfl ?_); refine goesL_ (some 23) rfl rfl Try.func14 (by kernel_rfl) rfl #[.agg #[.slice A0_0 l0_0.length c0_0, .slice A0_1 l0_1.length c0_1, .int .i64 a0_2]] rfl zra ?_; (with_reducible refine (store_Right.calls _ _ l0_0 _ _ l0_1 a0_2 t245 _ ?side1 ?side2 ?side3 ?side4 A26.out).mono ?_); (case side1 => exact zrc (Kd.C_below HR0_0.out HB.out)); (case side2 => exact HC0_0.out); (case side3 => exact zrc (Kd.C_below HR0_1.out HB.out)); (case side4 => exact HC0_1.out); rintro e w30 ⟨rfl, hb⟩; refine ⟨_, rfl, ?_⟩; replace BK239 := zqj (blk_below (g := gb239) (o := .cells #[.slice A0_0 l0_0.length c0_0, .slice A0_1 l0_1.length c0_1, .int .i64 a0_2] 25 (0, 0)) (zrb BK239.out) hb); replace BK240 := zqj (blk_below (g := gb240) (o := .cells #[.slice A2_0 l2_0.length c2_0, .slice A2_1 l2_1.length c2_1, .int .i64 a2_2] 25 (0, 0)) (zrb BK240.out) hb); replace HB := zqj (below_step (zrd2 HB.out GE239.out GE240.out) hb); (try clear hb); (try clear hb2); (try clear hk); (try clear hi)))
      go_meet
      case rel => exact ⟨_, (true), zrt, H', ⟨by have := HJ4.out; first | omega | exact Nat.le_refl _⟩, ⟨by (with_reducible repeat (first | refine zqa ?_ _ | refine zqb ?_ | refine zqc ?_ _)); exact BK239.out⟩, ⟨by (with_reducible repeat (first | refine zqa ?_ _ | refine zqb ?_ | refine zqc ?_ _)); exact BK240.out⟩, ⟨by repeat (first | (with_reducible first | exact HB.out | apply zqg | apply zqe | apply zqf | refine zqd ?_ GE239.out | refine zqd ?_ GE240.out) | exact HB.out)⟩⟩
     ·rw [if_neg c27] at H
      have c27b0 : (t245 != t244) = false := by simpa using c27
      (try (have c27b1 : decide (t245 = t244) = true := by simpa using c27))
      (try (have c27b2 : (t245 == t244) = true := by simpa using c27))
      clear c27
      (first | rw [c27b0] | (simp only [i64_w, i32_w]; rw [c27b0]) | skip)
      have H' := zqj H
      clear H
      have hnb31 := NB239_240.out
      have hnc31 := NB240_239.out
      obtain ⟨hcz32_0, hcz32_1, hcz32_2⟩ := zc3 BK239.out
      (obtain ⟨hfz32_0, hfz32_1, hfz32_2⟩ := zf3 BK239.out)
      go_wp2_with (first | ((with_reducible refine gate_callee (f := 14) rfl ?_); refine goesL_ (some 23) rfl rfl Try.func14 (by kernel_rfl) rfl #[.agg #[.slice A0_0 l0_0.length c0_0, .slice A0_1 l0_1.length c0_1, .int .i64 a0_2]] rfl zra ?_; (with_reducible refine (store_Right.calls _ _ l0_0 _ _ l0_1 a0_2 t245 _ ?side1 ?side2 ?side3 ?side4 A26.out).mono ?_); (case side1 => exact zrc (Kd.C_below HR0_0.out HB.out)); (case side2 => exact HC0_0.out); (case side3 => exact zrc (Kd.C_below HR0_1.out HB.out)); (case side4 => exact HC0_1.out); rintro e w33 ⟨rfl, hb⟩; refine ⟨_, rfl, ?_⟩; replace BK239 := zqj (blk_below (g := gb239) (o := .cells #[.slice A0_0 l0_0.length c0_0, .slice A0_1 l0_1.length c0_1, .int .i64 a0_2] 25 (0, 0)) (zrb BK239.out) hb); replace BK240 := zqj (blk_below (g := gb240) (o := .cells #[.slice A2_0 l2_0.length c2_0, .slice A2_1 l2_1.length c2_1, .int .i64 a2_2] 25 (0, 0)) (zrb BK240.out) hb); replace HB := zqj (below_step (zrd2 HB.out GE239.out GE240.out) hb); (try clear hb); (try clear hb2); (try clear hk); (try clear hi)))
      go_meet
      case rel => exact ⟨_, (!t244), zrt, H', ⟨by have := HJ4.out; first | omega | exact Nat.le_refl _⟩, ⟨by (with_reducible repeat (first | refine zqa ?_ _ | refine zqb ?_ | refine zqc ?_ _)); exact BK239.out⟩, ⟨by (with_reducible repeat (first | refine zqa ?_ _ | refine zqb ?_ | refine zqc ?_ _)); exact BK240.out⟩, ⟨by repeat (first | (with_reducible first | exact HB.out | apply zqg | apply zqe | apply zqf | refine zqd ?_ GE239.out | refine zqd ?_ GE240.out) | exact HB.out)⟩⟩
    case rest =>
     (clear HC22; (try clear c1); (try clear c2); (try clear p2); (try clear c3); (try clear c4); (try clear c8); (try clear c9); (try clear c10); (try clear c12); (try clear c14); (try clear c17); (try clear c20); (try clear c23); (try clear c27); (try clear c27b0); (try clear c27b1); (try clear c27b2); (try clear c28); (try clear c31); (try clear hcz13_0); (try clear hcz13_1); (try clear hcz13_2); (try clear hcz15_0); (try clear hcz15_1); (try clear hcz15_2); (try clear hcz18_0); (try clear hcz18_1); (try clear hcz18_2); (try clear hcz24_0); (try clear hcz24_1); (try clear hcz24_2); (try clear hcz29_0); (try clear hcz29_1); (try clear hcz29_2); (try clear hcz32_0); (try clear hcz32_1); (try clear hcz32_2); (try clear hfz13_0); (try clear hfz13_1); (try clear hfz13_2); (try clear hfz15_0); (try clear hfz15_1); (try clear hfz15_2); (try clear hfz18_0); (try clear hfz18_1); (try clear hfz18_2); (try clear hfz24_0); (try clear hfz24_1); (try clear hfz24_2); (try clear hfz29_0); (try clear hfz29_1); (try clear hfz29_2); (try clear hfz32_0); (try clear hfz32_1); (try clear hfz32_2); (try clear p2))
     obtain ⟨kq, x29_21, rfl, HA, HJ21, BK239, BK240, HB⟩ := hcut
     cases kq with
     | zero => exact absurd HA.out (by simp [copyholdlaw12_StoreLooks.j1])
     | succ kj21 =>
      (have H := HA.out; clear HA)
      simp only [copyholdlaw12_StoreLooks.j1] at H
      by_cases c34 : x29_21 = true
      ·subst c34
       have H1 : (if t241 = true then ((store_Right.f l0_0 l0_1 a0_2).bind fun t246 => (some (t246 == t244))) else (none)) = some r := by rw [if_pos rfl] at H; exact H
       clear H
       have H := H1
       clear H1
       by_cases c35 : t241 = true
       ·subst c35
        have H1 : ((store_Right.f l0_0 l0_1 a0_2).bind fun t246 => (some (t246 == t244))) = some r := by rw [if_pos rfl] at H; exact H
        clear H
        have H := H1
        clear H1
        replace H := zqn H
        obtain ⟨t246, A360, H⟩ := H
        replace H : (some (t246 == t244)) = some r := H
        have A36 := zqj A360
        clear A360
        obtain rfl := Option.some.inj H
        have hnb37 := NB239_240.out
        have hnc37 := NB240_239.out
        obtain ⟨hcz38_0, hcz38_1, hcz38_2⟩ := zc3 BK239.out
        (obtain ⟨hfz38_0, hfz38_1, hfz38_2⟩ := zf3 BK239.out)
        go_wp2_with (first | (go_at_call 14; (with_reducible refine (store_Right.calls _ _ l0_0 _ _ l0_1 a0_2 t246 _ ?side1 ?side2 ?side3 ?side4 A36.out).mono ?_); (case side1 => exact zrc (Kd.C_below HR0_0.out HB.out)); (case side2 => exact HC0_0.out); (case side3 => exact zrc (Kd.C_below HR0_1.out HB.out)); (case side4 => exact HC0_1.out); rintro e w39 ⟨rfl, hb⟩; replace BK239 := zqj (blk_below (g := gb239) (o := .cells #[.slice A0_0 l0_0.length c0_0, .slice A0_1 l0_1.length c0_1, .int .i64 a0_2] 25 (0, 0)) (zrb BK239.out) hb); replace BK240 := zqj (blk_below (g := gb240) (o := .cells #[.slice A2_0 l2_0.length c2_0, .slice A2_1 l2_1.length c2_1, .int .i64 a2_2] 25 (0, 0)) (zrb BK240.out) hb); replace HB := zqj (below_step (zrd2 HB.out GE239.out GE240.out) hb); (try clear hb); (try clear hb2); (try clear hk); (try clear hi)))
        go_ret
        exact ⟨zru, by repeat (first | (with_reducible first | exact HB.out | apply zqg | apply zqe | apply zqf | refine zqd ?_ GE239.out | refine zqd ?_ GE240.out) | exact HB.out)⟩
       ·replace c35 := Bool.eq_false_iff.mpr c35
        subst c35
        have H1 : (none) = some r := by rw [if_neg (show ¬ (false = true) by decide)] at H; exact H
        clear H
        have H := H1
        clear H1
        exact absurd H (by simp)
      ·replace c34 := Bool.eq_false_iff.mpr c34
       subst c34
       have H1 : ((copyholdref12_Right.f kj21 l2_0 l2_1 a2_2).bind fun t247 => (if t247 = true then ((store_View.f kj21 l0_0 l0_1 a0_2 a1).bind fun bt248 => ((copyholdref12_View.f kj21 l0_0 l0_1 a0_2 a1).bind fun bt252 => ((copyholdref08_Same.f kj21 bt248.1 bt248.2 bt252.1 bt252.2).bind fun t256 => (if t256 = true then ((store_Since.f kj21 l0_0 l0_1 a0_2 a1).bind fun t257 => ((copyholdref12_Since.f kj21 l0_0 l0_1 a0_2 a1).bind fun t260 => ((copyholdref11_Ints.f kj21 t257 t260).bind fun t263 => (if t241 = true then (if t263 = true then ((store_Many.f kj21 l0_0 l0_1 a0_2).bind fun t264 => ((copyholdref12_Many.f kj21 l0_0 l0_1 a0_2).bind fun t265 => (if t264 = t265 then ((store_Same.f l0_0 l0_1 a0_2 l2_0 l2_1 a2_2).bind fun t266 => ((copyholdref12_Same.f l0_0 l0_1 a0_2 l2_0 l2_1 a2_2).bind fun t267 => (some (t266 == t267)))) else (none)))) else (none)) else (none))))) else (none))))) else (some t241))) = some r := by rw [if_neg (show ¬ (false = true) by decide)] at H; exact H
       clear H
       have H := H1
       clear H1
       replace H := zqn H
       obtain ⟨t247, A400, H⟩ := H
       replace H : (if t247 = true then ((store_View.f kj21 l0_0 l0_1 a0_2 a1).bind fun bt248 => ((copyholdref12_View.f kj21 l0_0 l0_1 a0_2 a1).bind fun bt252 => ((copyholdref08_Same.f kj21 bt248.1 bt248.2 bt252.1 bt252.2).bind fun t256 => (if t256 = true then ((store_Since.f kj21 l0_0 l0_1 a0_2 a1).bind fun t257 => ((copyholdref12_Since.f kj21 l0_0 l0_1 a0_2 a1).bind fun t260 => ((copyholdref11_Ints.f kj21 t257 t260).bind fun t263 => (if t241 = true then (if t263 = true then ((store_Many.f kj21 l0_0 l0_1 a0_2).bind fun t264 => ((copyholdref12_Many.f kj21 l0_0 l0_1 a0_2).bind fun t265 => (if t264 = t265 then ((store_Same.f l0_0 l0_1 a0_2 l2_0 l2_1 a2_2).bind fun t266 => ((copyholdref12_Same.f l0_0 l0_1 a0_2 l2_0 l2_1 a2_2).bind fun t267 => (some (t266 == t267)))) else (none)))) else (none)) else (none))))) else (none))))) else (some t241)) = some r := H
       have A40 := zqj A400
       clear A400
       by_cases c41 : t247 = true
       ·subst c41
        have H1 : ((store_View.f kj21 l0_0 l0_1 a0_2 a1).bind fun bt248 => ((copyholdref12_View.f kj21 l0_0 l0_1 a0_2 a1).bind fun bt252 => ((copyholdref08_Same.f kj21 bt248.1 bt248.2 bt252.1 bt252.2).bind fun t256 => (if t256 = true then ((store_Since.f kj21 l0_0 l0_1 a0_2 a1).bind fun t257 => ((copyholdref12_Since.f kj21 l0_0 l0_1 a0_2 a1).bind fun t260 => ((copyholdref11_Ints.f kj21 t257 t260).bind fun t263 => (if t241 = true then (if t263 = true then ((store_Many.f kj21 l0_0 l0_1 a0_2).bind fun t264 => ((copyholdref12_Many.f kj21 l0_0 l0_1 a0_2).bind fun t265 => (if t264 = t265 then ((store_Same.f l0_0 l0_1 a0_2 l2_0 l2_1 a2_2).bind fun t266 => ((copyholdref12_Same.f l0_0 l0_1 a0_2 l2_0 l2_1 a2_2).bind fun t267 => (some (t266 == t267)))) else (none)))) else (none)) else (none))))) else (none))))) = some r := by rw [if_pos rfl] at H; exact H
        clear H
        have H := H1
        clear H1
        replace H := zqn H
        obtain ⟨⟨t248, t251⟩, A420, H⟩ := H
        replace H : ((copyholdref12_View.f kj21 l0_0 l0_1 a0_2 a1).bind fun bt252 => ((copyholdref08_Same.f kj21 t248 t251 bt252.1 bt252.2).bind fun t256 => (if t256 = true then ((store_Since.f kj21 l0_0 l0_1 a0_2 a1).bind fun t257 => ((copyholdref12_Since.f kj21 l0_0 l0_1 a0_2 a1).bind fun t260 => ((copyholdref11_Ints.f kj21 t257 t260).bind fun t263 => (if t241 = true then (if t263 = true then ((store_Many.f kj21 l0_0 l0_1 a0_2).bind fun t264 => ((copyholdref12_Many.f kj21 l0_0 l0_1 a0_2).bind fun t265 => (if t264 = t265 then ((store_Same.f l0_0 l0_1 a0_2 l2_0 l2_1 a2_2).bind fun t266 => ((copyholdref12_Same.f l0_0 l0_1 a0_2 l2_0 l2_1 a2_2).bind fun t267 => (some (t266 == t267)))) else (none)))) else (none)) else (none))))) else (none)))) = some r := H
        have A42 := zqj A420
        clear A420
        replace H := zqn H
        obtain ⟨⟨t252, t255⟩, A430, H⟩ := H
        replace H : ((copyholdref08_Same.f kj21 t248 t251 t252 t255).bind fun t256 => (if t256 = true then ((store_Since.f kj21 l0_0 l0_1 a0_2 a1).bind fun t257 => ((copyholdref12_Since.f kj21 l0_0 l0_1 a0_2 a1).bind fun t260 => ((copyholdref11_Ints.f kj21 t257 t260).bind fun t263 => (if t241 = true then (if t263 = true then ((store_Many.f kj21 l0_0 l0_1 a0_2).bind fun t264 => ((copyholdref12_Many.f kj21 l0_0 l0_1 a0_2).bind fun t265 => (if t264 = t265 then ((store_Same.f l0_0 l0_1 a0_2 l2_0 l2_1 a2_2).bind fun t266 => ((copyholdref12_Same.f l0_0 l0_1 a0_2 l2_0 l2_1 a2_2).bind fun t267 => (some (t266 == t267)))) else (none)))) else (none)) else (none))))) else (none))) = some r := H
        have A43 := zqj A430
        clear A430
        replace H := zqn H
        obtain ⟨t256, A440, H⟩ := H
        replace H : (if t256 = true then ((store_Since.f kj21 l0_0 l0_1 a0_2 a1).bind fun t257 => ((copyholdref12_Since.f kj21 l0_0 l0_1 a0_2 a1).bind fun t260 => ((copyholdref11_Ints.f kj21 t257 t260).bind fun t263 => (if t241 = true then (if t263 = true then ((store_Many.f kj21 l0_0 l0_1 a0_2).bind fun t264 => ((copyholdref12_Many.f kj21 l0_0 l0_1 a0_2).bind fun t265 => (if t264 = t265 then ((store_Same.f l0_0 l0_1 a0_2 l2_0 l2_1 a2_2).bind fun t266 => ((copyholdref12_Same.f l0_0 l0_1 a0_2 l2_0 l2_1 a2_2).bind fun t267 => (some (t266 == t267)))) else (none)))) else (none)) else (none))))) else (none)) = some r := H
        have A44 := zqj A440
        clear A440
        by_cases c45 : t256 = true
        ·subst c45
         have H1 : ((store_Since.f kj21 l0_0 l0_1 a0_2 a1).bind fun t257 => ((copyholdref12_Since.f kj21 l0_0 l0_1 a0_2 a1).bind fun t260 => ((copyholdref11_Ints.f kj21 t257 t260).bind fun t263 => (if t241 = true then (if t263 = true then ((store_Many.f kj21 l0_0 l0_1 a0_2).bind fun t264 => ((copyholdref12_Many.f kj21 l0_0 l0_1 a0_2).bind fun t265 => (if t264 = t265 then ((store_Same.f l0_0 l0_1 a0_2 l2_0 l2_1 a2_2).bind fun t266 => ((copyholdref12_Same.f l0_0 l0_1 a0_2 l2_0 l2_1 a2_2).bind fun t267 => (some (t266 == t267)))) else (none)))) else (none)) else (none))))) = some r := by rw [if_pos rfl] at H; exact H
         clear H
         have H := H1
         clear H1
         replace H := zqn H
         obtain ⟨t257, A460, H⟩ := H
         replace H : ((copyholdref12_Since.f kj21 l0_0 l0_1 a0_2 a1).bind fun t260 => ((copyholdref11_Ints.f kj21 t257 t260).bind fun t263 => (if t241 = true then (if t263 = true then ((store_Many.f kj21 l0_0 l0_1 a0_2).bind fun t264 => ((copyholdref12_Many.f kj21 l0_0 l0_1 a0_2).bind fun t265 => (if t264 = t265 then ((store_Same.f l0_0 l0_1 a0_2 l2_0 l2_1 a2_2).bind fun t266 => ((copyholdref12_Same.f l0_0 l0_1 a0_2 l2_0 l2_1 a2_2).bind fun t267 => (some (t266 == t267)))) else (none)))) else (none)) else (none)))) = some r := H
         have A46 := zqj A460
         clear A460
         replace H := zqn H
         obtain ⟨t260, A470, H⟩ := H
         replace H : ((copyholdref11_Ints.f kj21 t257 t260).bind fun t263 => (if t241 = true then (if t263 = true then ((store_Many.f kj21 l0_0 l0_1 a0_2).bind fun t264 => ((copyholdref12_Many.f kj21 l0_0 l0_1 a0_2).bind fun t265 => (if t264 = t265 then ((store_Same.f l0_0 l0_1 a0_2 l2_0 l2_1 a2_2).bind fun t266 => ((copyholdref12_Same.f l0_0 l0_1 a0_2 l2_0 l2_1 a2_2).bind fun t267 => (some (t266 == t267)))) else (none)))) else (none)) else (none))) = some r := H
         have A47 := zqj A470
         clear A470
         replace H := zqn H
         obtain ⟨t263, A480, H⟩ := H
         replace H : (if t241 = true then (if t263 = true then ((store_Many.f kj21 l0_0 l0_1 a0_2).bind fun t264 => ((copyholdref12_Many.f kj21 l0_0 l0_1 a0_2).bind fun t265 => (if t264 = t265 then ((store_Same.f l0_0 l0_1 a0_2 l2_0 l2_1 a2_2).bind fun t266 => ((copyholdref12_Same.f l0_0 l0_1 a0_2 l2_0 l2_1 a2_2).bind fun t267 => (some (t266 == t267)))) else (none)))) else (none)) else (none)) = some r := H
         have A48 := zqj A480
         clear A480
         by_cases c49 : t241 = true
         ·subst c49
          have H1 : (if t263 = true then ((store_Many.f kj21 l0_0 l0_1 a0_2).bind fun t264 => ((copyholdref12_Many.f kj21 l0_0 l0_1 a0_2).bind fun t265 => (if t264 = t265 then ((store_Same.f l0_0 l0_1 a0_2 l2_0 l2_1 a2_2).bind fun t266 => ((copyholdref12_Same.f l0_0 l0_1 a0_2 l2_0 l2_1 a2_2).bind fun t267 => (some (t266 == t267)))) else (none)))) else (none)) = some r := by rw [if_pos rfl] at H; exact H
          clear H
          have H := H1
          clear H1
          by_cases c50 : t263 = true
          ·subst c50
           have H1 : ((store_Many.f kj21 l0_0 l0_1 a0_2).bind fun t264 => ((copyholdref12_Many.f kj21 l0_0 l0_1 a0_2).bind fun t265 => (if t264 = t265 then ((store_Same.f l0_0 l0_1 a0_2 l2_0 l2_1 a2_2).bind fun t266 => ((copyholdref12_Same.f l0_0 l0_1 a0_2 l2_0 l2_1 a2_2).bind fun t267 => (some (t266 == t267)))) else (none)))) = some r := by rw [if_pos rfl] at H; exact H
           clear H
           have H := H1
           clear H1
           replace H := zqn H
           obtain ⟨t264, A510, H⟩ := H
           replace H : ((copyholdref12_Many.f kj21 l0_0 l0_1 a0_2).bind fun t265 => (if t264 = t265 then ((store_Same.f l0_0 l0_1 a0_2 l2_0 l2_1 a2_2).bind fun t266 => ((copyholdref12_Same.f l0_0 l0_1 a0_2 l2_0 l2_1 a2_2).bind fun t267 => (some (t266 == t267)))) else (none))) = some r := H
           have A51 := zqj A510
           clear A510
           replace H := zqn H
           obtain ⟨t265, A520, H⟩ := H
           replace H : (if t264 = t265 then ((store_Same.f l0_0 l0_1 a0_2 l2_0 l2_1 a2_2).bind fun t266 => ((copyholdref12_Same.f l0_0 l0_1 a0_2 l2_0 l2_1 a2_2).bind fun t267 => (some (t266 == t267)))) else (none)) = some r := H
           have A52 := zqj A520
           clear A520
           by_cases c53 : t264 = t265
           ·rw [if_pos c53] at H
            have c53b0 : (t264 == t265) = true := beq_iff_eq.mpr c53
            have c53b1 : (t264 != t265) = false := bne_eq_false_iff_eq.mpr c53
            clear c53
            replace H := zqn H
            obtain ⟨t266, A540, H⟩ := H
            replace H : ((copyholdref12_Same.f l0_0 l0_1 a0_2 l2_0 l2_1 a2_2).bind fun t267 => (some (t266 == t267))) = some r := H
            have A54 := zqj A540
            clear A540
            replace H := zqn H
            obtain ⟨t267, A550, H⟩ := H
            replace H : (some (t266 == t267)) = some r := H
            have A55 := zqj A550
            clear A550
            obtain rfl := Option.some.inj H
            have hnb56 := NB240_239.out
            have hnc56 := NB239_240.out
            obtain ⟨hcz57_0, hcz57_1, hcz57_2⟩ := zc3 BK240.out
            (obtain ⟨hfz57_0, hfz57_1, hfz57_2⟩ := zf3 BK240.out)
            try go_wp2_with (first | ((with_reducible refine gate_callee (f := 10) rfl ?_); refine goesL_ (some 38) rfl rfl Try.func10 (by kernel_rfl) rfl #[.agg #[.slice A2_0 l2_0.length c2_0, .slice A2_1 l2_1.length c2_1, .int .i64 a2_2]] rfl zra ?_; (with_reducible refine (copyholdref12_Right.calls kj21 _ _ l2_0 _ _ l2_1 a2_2 true _ ?side1 ?side2 ?side3 ?side4 A40.out).mono ?_); (case side1 => exact zrc (Kd.C_below HR2_0.out HB.out)); (case side2 => exact HC2_0.out); (case side3 => exact zrc (Kd.C_below HR2_1.out HB.out)); (case side4 => exact HC2_1.out); rintro e w58 ⟨rfl, hb⟩; refine ⟨_, rfl, ?_⟩; replace BK239 := zqj (blk_below (g := gb239) (o := .cells #[.slice A0_0 l0_0.length c0_0, .slice A0_1 l0_1.length c0_1, .int .i64 a0_2] 25 (0, 0)) (zrb BK239.out) hb); replace BK240 := zqj (blk_below (g := gb240) (o := .cells #[.slice A2_0 l2_0.length c2_0, .slice A2_1 l2_1.length c2_1, .int .i64 a2_2] 25 (0, 0)) (zrb BK240.out) hb); replace HB := zqj (below_step (zrd2 HB.out GE239.out GE240.out) hb); (try clear hb); (try clear hb2); (try clear hk); (try clear hi)))
            replace BK239 := zqj (zqb BK239.out); replace BK240 := zqj (zqb BK240.out); replace HB := zqj (zqf HB.out)
            refine start_ (n := 17) (S := fun w' => w'.cell? ⟨gb239, 0, none⟩ = some (.slice A0_0 l0_0.length c0_0) ∧ w'.cell? ⟨gb239, 1, none⟩ = some (.slice A0_1 l0_1.length c0_1) ∧ w'.cell? ⟨gb239, 2, none⟩ = some (.int .i64 a0_2)) (ds := []) #[false, false, false, false, false, false, false, false, false, false, false, false, false, false, false, false, false] (by kernel_rfl) rfl rfl ⟨(blk_cell BK239.out 0).trans rfl, (blk_cell BK239.out 1).trans rfl, (blk_cell BK239.out 2).trans rfl⟩ (fun hHeld => ?_); refine with_tabW copyholdlaw12_StoreLooks.tab9 copyholdlaw12_StoreLooks.bits9 (fun HT_ HW_ => ?_)
            generalize w58.drew = w59 at BK239 BK240 HB hHeld ⊢
            refine zp 1 42 (zb 17 2) HT_.out ?_
            refine zp 4 45 (zb 17 18) HT_.out ?_
            refine zt 0 41 (zb 17 19) HT_.out HW_.out hHeld ?_
            refine zt 3 44 (zb 17 27) HT_.out HW_.out hHeld ?_
            refine one_ (i := 2) (N := some 43) (zb 17 31) rfl rfl (one_of HT_.out (by kernel_rfl)) (by decide) (fun K hK => ?_)
            refine goes_ Try.func13 (by kernel_rfl) rfl #[.agg #[.slice A0_0 l0_0.length c0_0, .slice A0_1 l0_1.length c0_1, .int .i64 a0_2], .int .i64 a1] (by rfl) rfl rfl zra ?_
            with_reducible refine (store_View.calls kj21 (fun k_ => k_ < w.heap.size) _ _ l0_0 _ _ l0_1 a0_2 a1 t248 t251 _ ?side1 ?side2 ?side3 A42.out).mono ?_
            (case side1 => exact Kd.V_mk HC0_0.out (Kd.F_below (Kd.C_F k55_heap HR0_0.out) (zrd2 HB.out GE239.out GE240.out)))
            (case side2 => exact zrc (Kd.C_below HR0_1.out HB.out))
            (case side3 => exact HC0_1.out)
            rintro e w60 ⟨v249, rfl, ho0, hb⟩
            refine ⟨_, rfl, ?_⟩
            have n0_ := zqj (Kd.N_lower (Kd.N_mono (ok' := fun k_ => k_ ≠ gb239 ∧ k_ ≠ gb240) ho0 (fun k_ hk_ => ⟨Or.elim hk_ (fun hs_ => fun e_ => Nat.not_le.2 hs_ (by rw [e_]; exact GW239.out)) (fun hn_ => (Kd.freshB (g := gb239) (o := .cells #[.slice A0_0 l0_0.length c0_0, .slice A0_1 l0_1.length c0_1, .int .i64 a0_2] 25 (0, 0)) (zrb BK239.out) k_ hn_)), Or.elim hk_ (fun hs_ => fun e_ => Nat.not_le.2 hs_ (by rw [e_]; exact GW240.out)) (fun hn_ => (Kd.freshB (g := gb240) (o := .cells #[.slice A2_0 l2_0.length c2_0, .slice A2_1 l2_1.length c2_1, .int .i64 a2_2] 25 (0, 0)) (zrb BK240.out) k_ hn_))⟩)) (below_size (zrd2 HB.out GE239.out GE240.out)))
            have n1_ := zqj (blk_below (g := gb239) (o := .cells #[.slice A0_0 l0_0.length c0_0, .slice A0_1 l0_1.length c0_1, .int .i64 a0_2] 25 (0, 0)) (zrb BK239.out) hb)
            have n2_ := zqj (blk_below (g := gb240) (o := .cells #[.slice A2_0 l2_0.length c2_0, .slice A2_1 l2_1.length c2_1, .int .i64 a2_2] 25 (0, 0)) (zrb BK240.out) hb)
            have n3_ := zqj (below_step (zrd2 HB.out GE239.out GE240.out) hb)
            (clear BK239; clear BK240; clear HB; have HO250 := n0_; have BK239 := n1_; have BK240 := n2_; have HB := n3_; clear n0_ n1_ n2_ n3_; (try clear hb); (try clear hb2); (try clear hk); (try clear hi); (try clear ho0))
            refine hK.out _ _ ⟨(blk_cell BK239.out 0).trans rfl, (blk_cell BK239.out 1).trans rfl, (blk_cell BK239.out 2).trans rfl⟩ (fun hHeld => ?_)
            clear hK K
            refine norm_ (a' := ?_) ?_ ?_
            rotate_left
            ·show Act.put _ (some 43) _ = _
             simp only [Act.put, zqk, zql, zqm, i64_w, i32_w]
             rfl
            refine one_ (i := 5) (N := some 46) (zb 17 63) rfl rfl (one_of HT_.out (by kernel_rfl)) (by decide) (fun K hK => ?_)
            refine goes_ Try.func16 (by kernel_rfl) rfl #[.agg #[.slice A0_0 l0_0.length c0_0, .slice A0_1 l0_1.length c0_1, .int .i64 a0_2], .int .i64 a1] (by rfl) rfl rfl zra ?_
            with_reducible refine (copyholdref12_View.calls kj21 (fun k_ => k_ < w.heap.size) _ _ l0_0 _ _ l0_1 a0_2 a1 t252 t255 _ ?side1 ?side2 ?side3 A43.out).mono ?_
            (case side1 => exact Kd.V_mk HC0_0.out (Kd.F_below (Kd.C_F k55_heap HR0_0.out) (zrd2 HB.out GE239.out GE240.out)))
            (case side2 => exact zrc (Kd.C_below HR0_1.out HB.out))
            (case side3 => exact HC0_1.out)
            rintro e w61 ⟨v253, rfl, ho0, hb⟩
            refine ⟨_, rfl, ?_⟩
            have n0_ := zqj (Kd.N_elder' (zrN HO250.out) (Kd.N_base ho0) hb)
            have n1_ := zqj (Kd.N_lower (Kd.N_mono (ok' := fun k_ => some k_ ≠ (v249 : Value).ownBlock ∧ k_ ≠ gb239 ∧ k_ ≠ gb240) ho0 (fun k_ hk_ => ⟨Or.elim hk_ (fun hs_ => fun e_ => Nat.not_le.2 hs_ (Kd.N_base HO250.out k_ e_.symm)) (fun hn_ => (Kd.fresh' (Kd.N_lt (zrN HO250.out)) k_ hn_)), Or.elim hk_ (fun hs_ => fun e_ => Nat.not_le.2 hs_ (by rw [e_]; exact GW239.out)) (fun hn_ => (Kd.freshB (g := gb239) (o := .cells #[.slice A0_0 l0_0.length c0_0, .slice A0_1 l0_1.length c0_1, .int .i64 a0_2] 25 (0, 0)) (zrb BK239.out) k_ hn_)), Or.elim hk_ (fun hs_ => fun e_ => Nat.not_le.2 hs_ (by rw [e_]; exact GW240.out)) (fun hn_ => (Kd.freshB (g := gb240) (o := .cells #[.slice A2_0 l2_0.length c2_0, .slice A2_1 l2_1.length c2_1, .int .i64 a2_2] 25 (0, 0)) (zrb BK240.out) k_ hn_))⟩)) (below_size (zrd2 HB.out GE239.out GE240.out)))
            have n2_ := zqj (blk_below (g := gb239) (o := .cells #[.slice A0_0 l0_0.length c0_0, .slice A0_1 l0_1.length c0_1, .int .i64 a0_2] 25 (0, 0)) (zrb BK239.out) hb)
            have n3_ := zqj (blk_below (g := gb240) (o := .cells #[.slice A2_0 l2_0.length c2_0, .slice A2_1 l2_1.length c2_1, .int .i64 a2_2] 25 (0, 0)) (zrb BK240.out) hb)
            have n4_ := zqj (below_step (zrd2 HB.out GE239.out GE240.out) hb)
            (clear HO250; clear BK239; clear BK240; clear HB; have HO250 := n0_; have HO254 := n1_; have BK239 := n2_; have BK240 := n3_; have HB := n4_; clear n0_ n1_ n2_ n3_ n4_; (try clear hb); (try clear hb2); (try clear hk); (try clear hi); (try clear ho0))
            obtain ⟨Ao62, co62, eo62⟩ := Kd.N_slice HO250.out
            (first | subst eo62 | (injection eo62 with f1_ f2_ f3_; have f4_ := f1_.symm; have f5_ := f3_.symm; clear f1_ f2_ f3_; subst f4_; subst f5_))
            obtain ⟨Ao63, co63, eo63⟩ := Kd.N_slice HO254.out
            (first | subst eo63 | (injection eo63 with f1_ f2_ f3_; have f4_ := f1_.symm; have f5_ := f3_.symm; clear f1_ f2_ f3_; subst f4_; subst f5_))
            refine hK.out _ _ ⟨(blk_cell BK239.out 0).trans rfl, (blk_cell BK239.out 1).trans rfl, (blk_cell BK239.out 2).trans rfl⟩ (fun hHeld => ?_)
            clear hK K
            refine norm_ (a' := ?_) ?_ ?_
            rotate_left
            ·show Act.put _ (some 46) _ = _
             simp only [Act.put, zqk, zql, zqm, i64_w, i32_w]
             rfl
            refine one_ (i := 6) (N := some 47) (zb 17 127) rfl rfl (one_of HT_.out (by kernel_rfl)) (by decide) (fun K hK => ?_)
            refine goes_ Try.func15 (by kernel_rfl) rfl #[.agg #[.slice Ao62 t248.length co62, .int .i64 t251], .agg #[.slice Ao63 t252.length co63, .int .i64 t255]] (by rfl) rfl rfl zra ?_
            with_reducible refine (copyholdref08_Same.calls kj21 _ _ t248 t251 _ _ t252 t255 true _ ?side1 ?side2 ?side3 ?side4 A44.out).mono ?_
            (case side1 => repeat (first | exact (Kd.N_reads' HO250.out).2.2 | (with_reducible refine Kd.C_alloc ?_ _) | (with_reducible refine Kd.C_drewN ?_ _) | (with_reducible refine Kd.C_drew ?_)))
            (case side2 => exact (Kd.N_reads' HO250.out).2.1)
            (case side3 => repeat (first | exact (Kd.N_reads' HO254.out).2.2 | (with_reducible refine Kd.C_alloc ?_ _) | (with_reducible refine Kd.C_drewN ?_ _) | (with_reducible refine Kd.C_drew ?_)))
            (case side4 => exact (Kd.N_reads' HO254.out).2.1)
            rintro e w64 ⟨rfl, hb⟩
            refine ⟨_, rfl, ?_⟩
            replace HO250 := zqj (Kd.N_below (zrN HO250.out) hb); replace HO254 := zqj (Kd.N_below (zrN HO254.out) hb); replace BK239 := zqj (blk_below (g := gb239) (o := .cells #[.slice A0_0 l0_0.length c0_0, .slice A0_1 l0_1.length c0_1, .int .i64 a0_2] 25 (0, 0)) (zrb BK239.out) hb); replace BK240 := zqj (blk_below (g := gb240) (o := .cells #[.slice A2_0 l2_0.length c2_0, .slice A2_1 l2_1.length c2_1, .int .i64 a2_2] 25 (0, 0)) (zrb BK240.out) hb); replace HB := zqj (below_step (zrd2 HB.out GE239.out GE240.out) hb)
            (try clear hb); (try clear hb2); (try clear hk); (try clear hi)
            refine hK.out _ _ ⟨(blk_cell BK239.out 0).trans rfl, (blk_cell BK239.out 1).trans rfl, (blk_cell BK239.out 2).trans rfl⟩ (fun hHeld => ?_)
            clear hK K
            refine norm_ (a' := ?_) ?_ ?_
            rotate_left
            ·show Act.put _ (some 47) _ = _
             simp only [Act.put, zqk, zql, zqm, i64_w, i32_w]
             rfl
            refine zp 7 48 (zb 17 255) HT_.out ?_
            refine zp 9 50 (zb 17 767) HT_.out ?_
            refine zp 12 53 (zb 17 4863) HT_.out ?_
            refine zt 8 49 (zb 17 5119) HT_.out HW_.out hHeld ?_
            refine zt 11 52 (zb 17 7167) HT_.out HW_.out hHeld ?_
            refine one_ (i := 10) (N := some 51) (zb 17 8191) rfl rfl (one_of HT_.out (by kernel_rfl)) (by decide) (fun K hK => ?_)
            refine goes_ Try.func11 (by kernel_rfl) rfl #[.agg #[.slice A0_0 l0_0.length c0_0, .slice A0_1 l0_1.length c0_1, .int .i64 a0_2], .int .i64 a1] (by rfl) rfl rfl zra ?_
            with_reducible refine (store_Since.calls kj21 _ _ l0_0 _ _ l0_1 a0_2 a1 t257 _ ?side1 ?side2 ?side3 ?side4 A46.out).mono ?_
            (case side1 => exact zrc (Kd.C_below HR0_0.out HB.out))
            (case side2 => exact HC0_0.out)
            (case side3 => exact zrc (Kd.C_below HR0_1.out HB.out))
            (case side4 => exact HC0_1.out)
            rintro e w65 ⟨v258, rfl, ho0, hb⟩
            refine ⟨_, rfl, ?_⟩
            have n0_ := zqj (Kd.N_elder' (zrN HO250.out) (Kd.R_base ho0) hb)
            have n1_ := zqj (Kd.N_elder' (zrN HO254.out) (Kd.R_base ho0) hb)
            have n2_ := zqj (Kd.R_lower ho0 (below_size (zrd2 HB.out GE239.out GE240.out)))
            have n3_ := zqj (blk_below (g := gb239) (o := .cells #[.slice A0_0 l0_0.length c0_0, .slice A0_1 l0_1.length c0_1, .int .i64 a0_2] 25 (0, 0)) (zrb BK239.out) hb)
            have n4_ := zqj (blk_below (g := gb240) (o := .cells #[.slice A2_0 l2_0.length c2_0, .slice A2_1 l2_1.length c2_1, .int .i64 a2_2] 25 (0, 0)) (zrb BK240.out) hb)
            have n5_ := zqj (below_step (zrd2 HB.out GE239.out GE240.out) hb)
            (clear HO250; clear HO254; clear BK239; clear BK240; clear HB; have HO250 := n0_; have HO254 := n1_; have HO259 := n2_; have BK239 := n3_; have BK240 := n4_; have HB := n5_; clear n0_ n1_ n2_ n3_ n4_ n5_; (try clear hb); (try clear hb2); (try clear hk); (try clear hi); (try clear ho0))
            refine hK.out _ _ ⟨(blk_cell BK239.out 0).trans rfl, (blk_cell BK239.out 1).trans rfl, (blk_cell BK239.out 2).trans rfl⟩ (fun hHeld => ?_)
            clear hK K
            refine norm_ (a' := ?_) ?_ ?_
            rotate_left
            ·show Act.put _ (some 51) _ = _
             simp only [Act.put, zqk, zql, zqm, i64_w, i32_w]
             rfl
            refine one_ (i := 13) (N := some 54) (zb 17 16383) rfl rfl (one_of HT_.out (by kernel_rfl)) (by decide) (fun K hK => ?_)
            refine goes_ Try.func18 (by kernel_rfl) rfl #[.agg #[.slice A0_0 l0_0.length c0_0, .slice A0_1 l0_1.length c0_1, .int .i64 a0_2], .int .i64 a1] (by rfl) rfl rfl zra ?_
            with_reducible refine (copyholdref12_Since.calls kj21 _ _ l0_0 _ _ l0_1 a0_2 a1 t260 _ ?side1 ?side2 ?side3 ?side4 A47.out).mono ?_
            (case side1 => exact zrc (Kd.C_below HR0_0.out HB.out))
            (case side2 => exact HC0_0.out)
            (case side3 => exact zrc (Kd.C_below HR0_1.out HB.out))
            (case side4 => exact HC0_1.out)
            rintro e w66 ⟨v261, rfl, ho0, hb⟩
            refine ⟨_, rfl, ?_⟩
            have n0_ := zqj (Kd.N_elder' (zrN HO250.out) (Kd.R_base ho0) hb)
            have n1_ := zqj (Kd.N_elder' (zrN HO254.out) (Kd.R_base ho0) hb)
            have n2_ := zqj (Kd.R_elder' (zrR HO259.out) (Kd.R_base ho0) hb)
            have n3_ := zqj (Kd.R_lower (Kd.R_new' ho0 (Kd.R_lt (zrR HO259.out))) (below_size (zrd2 HB.out GE239.out GE240.out)))
            have n4_ := zqj (blk_below (g := gb239) (o := .cells #[.slice A0_0 l0_0.length c0_0, .slice A0_1 l0_1.length c0_1, .int .i64 a0_2] 25 (0, 0)) (zrb BK239.out) hb)
            have n5_ := zqj (blk_below (g := gb240) (o := .cells #[.slice A2_0 l2_0.length c2_0, .slice A2_1 l2_1.length c2_1, .int .i64 a2_2] 25 (0, 0)) (zrb BK240.out) hb)
            have n6_ := zqj (below_step (zrd2 HB.out GE239.out GE240.out) hb)
            (clear HO250; clear HO254; clear HO259; clear BK239; clear BK240; clear HB; have HO250 := n0_; have HO254 := n1_; have HO259 := n2_; have HO262 := n3_; have BK239 := n4_; have BK240 := n5_; have HB := n6_; clear n0_ n1_ n2_ n3_ n4_ n5_ n6_; (try clear hb); (try clear hb2); (try clear hk); (try clear hi); (try clear ho0))
            obtain ⟨Ao67, co67, eo67⟩ := Kd.R_slice HO259.out
            (first | subst eo67 | (injection eo67 with f1_ f2_ f3_; have f4_ := f1_.symm; have f5_ := f3_.symm; clear f1_ f2_ f3_; subst f4_; subst f5_))
            obtain ⟨Ao68, co68, eo68⟩ := Kd.R_slice HO262.out
            (first | subst eo68 | (injection eo68 with f1_ f2_ f3_; have f4_ := f1_.symm; have f5_ := f3_.symm; clear f1_ f2_ f3_; subst f4_; subst f5_))
            refine hK.out _ _ ⟨(blk_cell BK239.out 0).trans rfl, (blk_cell BK239.out 1).trans rfl, (blk_cell BK239.out 2).trans rfl⟩ (fun hHeld => ?_)
            clear hK K
            refine norm_ (a' := ?_) ?_ ?_
            rotate_left
            ·show Act.put _ (some 54) _ = _
             simp only [Act.put, zqk, zql, zqm, i64_w, i32_w]
             rfl
            refine one_ (i := 14) (N := some 55) (zb 17 32767) rfl rfl (one_of HT_.out (by kernel_rfl)) (by decide) (fun K hK => ?_)
            refine goes_ Try.func17 (by kernel_rfl) rfl #[.slice Ao67 t257.length co67, .slice Ao68 t260.length co68] (by rfl) rfl rfl zra ?_
            with_reducible refine (copyholdref11_Ints.calls kj21 _ _ t257 _ _ t260 true _ ?side1 ?side2 ?side3 ?side4 A48.out).mono ?_
            (case side1 => repeat (first | exact (Kd.R_reads' HO259.out).2.2 | (with_reducible refine Kd.C_alloc ?_ _) | (with_reducible refine Kd.C_drewN ?_ _) | (with_reducible refine Kd.C_drew ?_)))
            (case side2 => exact (Kd.R_reads' HO259.out).2.1)
            (case side3 => repeat (first | exact (Kd.R_reads' HO262.out).2.2 | (with_reducible refine Kd.C_alloc ?_ _) | (with_reducible refine Kd.C_drewN ?_ _) | (with_reducible refine Kd.C_drew ?_)))
            (case side4 => exact (Kd.R_reads' HO262.out).2.1)
            rintro e w' ⟨rfl, ⟨nd, rfl⟩⟩
            refine ⟨_, rfl, ?_⟩
            refine hK.out _ _ ⟨(blk_cell BK239.out 0).trans rfl, (blk_cell BK239.out 1).trans rfl, (blk_cell BK239.out 2).trans rfl⟩ (fun hHeld => ?_)
            clear hK K
            refine norm_ (a' := ?_) ?_ ?_
            rotate_left
            ·show Act.put _ (some 55) _ = _
             simp only [Act.put, zqk, zql, zqm, i64_w, i32_w]
             rfl
            refine zp 15 56 (zb 17 65535) HT_.out ?_
            refine zp 16 9 (zb 17 131071) HT_.out ?_
            refine done_ (done_of HT_.out (by kernel_rfl)) ?_
            try go_wp2
            (try (rw [drewN_self w66]; generalize hq_ : World.drewN w66 _ = w66; have n0_ : Aside0 (Kd.N k38 38 w66 w.heap.size (fun k_ => some k_ ≠ (.slice Ao63 t252.length co63 : Value).ownBlock ∧ some k_ ≠ (.slice Ao67 t257.length co67 : Value).ownBlock ∧ some k_ ≠ (.slice Ao68 t260.length co68 : Value).ownBlock ∧ k_ ≠ gb239 ∧ k_ ≠ gb240) (.slice Ao62 t248.length co62) t248) := ⟨by rw [← hq_]; exact (by (with_reducible repeat (first | apply Kd.N_alloc | apply Kd.N_drewN | apply Kd.N_drew)); exact Kd.N_mono HO250.out (fun _ hk => ⟨hk.1.1.2, ⟨hk.1.2, ⟨hk.2, ⟨hk.1.1.1.1, hk.1.1.1.2⟩⟩⟩⟩))⟩; have n1_ : Aside0 (Kd.N k38 38 w66 w.heap.size (fun k_ => some k_ ≠ (.slice Ao62 t248.length co62 : Value).ownBlock ∧ some k_ ≠ (.slice Ao67 t257.length co67 : Value).ownBlock ∧ some k_ ≠ (.slice Ao68 t260.length co68 : Value).ownBlock ∧ k_ ≠ gb239 ∧ k_ ≠ gb240) (.slice Ao63 t252.length co63) t252) := ⟨by rw [← hq_]; exact (by (with_reducible repeat (first | apply Kd.N_alloc | apply Kd.N_drewN | apply Kd.N_drew)); exact Kd.N_mono HO254.out (fun _ hk => ⟨hk.1.1.1, ⟨hk.1.2, ⟨hk.2, ⟨hk.1.1.2.1, hk.1.1.2.2⟩⟩⟩⟩))⟩; have n2_ : Aside0 (Kd.R (Kd.int .i64) 3 w66 w.heap.size (fun k_ => some k_ ≠ (.slice Ao68 t260.length co68 : Value).ownBlock) (.slice Ao67 t257.length co67) t257) := ⟨by rw [← hq_]; exact (by (with_reducible repeat (first | apply Kd.R_alloc | apply Kd.R_drewN | apply Kd.R_drew)); exact Kd.R_mono HO259.out (fun _ hk => hk.2))⟩; have n3_ : Aside0 (Kd.R (Kd.int .i64) 3 w66 w.heap.size (fun k_ => some k_ ≠ (.slice Ao67 t257.length co67 : Value).ownBlock) (.slice Ao68 t260.length co68) t260) := ⟨by rw [← hq_]; exact (by (with_reducible repeat (first | apply Kd.R_alloc | apply Kd.R_drewN | apply Kd.R_drew)); exact Kd.R_mono HO262.out (fun _ hk => hk.2))⟩; have n4_ : Aside0 (w66.heap[gb239]? = some (.cells #[.slice A0_0 l0_0.length c0_0, .slice A0_1 l0_1.length c0_1, .int .i64 a0_2] 25 (0, 0))) := ⟨by rw [← hq_]; exact (zrb BK239.out)⟩; have n5_ : Aside0 (w66.heap[gb240]? = some (.cells #[.slice A2_0 l2_0.length c2_0, .slice A2_1 l2_1.length c2_1, .int .i64 a2_2] 25 (0, 0))) := ⟨by rw [← hq_]; exact (zrb BK240.out)⟩; have n6_ : Aside0 (Below w.heap.size w w66) := ⟨by rw [← hq_]; exact (zrd2 HB.out GE239.out GE240.out)⟩; clear HO250 HO254 HO259 HO262 BK239 BK240 HB hq_; have HO250 := n0_; have HO254 := n1_; have HO259 := n2_; have HO262 := n3_; have BK239 := n4_; have BK240 := n5_; have HB := n6_; clear n0_ n1_ n2_ n3_ n4_ n5_ n6_))
            replace HO250 := zqj (Kd.N_drew HO250.out); replace HO254 := zqj (Kd.N_drew HO254.out); replace HO259 := zqj (Kd.R_drew HO259.out); replace HO262 := zqj (Kd.R_drew HO262.out); replace BK239 := zqj (zqb BK239.out); replace BK240 := zqj (zqb BK240.out); replace HB := zqj (zqf HB.out)
            refine start_ (n := 21) (S := fun w' => w'.cell? ⟨gb239, 0, none⟩ = some (.slice A0_0 l0_0.length c0_0) ∧ w'.cell? ⟨gb239, 1, none⟩ = some (.slice A0_1 l0_1.length c0_1) ∧ w'.cell? ⟨gb239, 2, none⟩ = some (.int .i64 a0_2) ∧ w'.cell? ⟨gb240, 0, none⟩ = some (.slice A2_0 l2_0.length c2_0) ∧ w'.cell? ⟨gb240, 1, none⟩ = some (.slice A2_1 l2_1.length c2_1) ∧ w'.cell? ⟨gb240, 2, none⟩ = some (.int .i64 a2_2)) (ds := []) #[false, false, false, false, false, false, false, false, false, false, false, false, false, false, false, false, false, false, false, false, false] (by kernel_rfl) rfl rfl ⟨(blk_cell BK239.out 0).trans rfl, (blk_cell BK239.out 1).trans rfl, (blk_cell BK239.out 2).trans rfl, (blk_cell BK240.out 0).trans rfl, (blk_cell BK240.out 1).trans rfl, (blk_cell BK240.out 2).trans rfl⟩ (fun hHeld => ?_); refine with_tabW copyholdlaw12_StoreLooks.tab10 copyholdlaw12_StoreLooks.bits10 (fun HT_ HW_ => ?_)
            generalize w66.drew = w69 at HO250 HO254 HO259 HO262 BK239 BK240 HB hHeld ⊢
            refine zp 0 57 (zb 21 1) HT_.out ?_
            refine zp 1 58 (zb 21 3) HT_.out ?_
            refine zp 2 59 (zb 21 7) HT_.out ?_
            refine zp 3 60 (zb 21 15) HT_.out ?_
            refine zp 4 61 (zb 21 31) HT_.out ?_
            refine zt 5 62 (zb 21 63) HT_.out HW_.out hHeld ?_
            refine zt 7 64 (zb 21 191) HT_.out HW_.out hHeld ?_
            refine one_ (i := 6) (N := some 63) (zb 21 255) rfl rfl (one_of HT_.out (by kernel_rfl)) (by decide) (fun K hK => ?_)
            refine goes_ Try.func19 (by kernel_rfl) rfl #[.agg #[.slice A0_0 l0_0.length c0_0, .slice A0_1 l0_1.length c0_1, .int .i64 a0_2]] (by rfl) rfl rfl zra ?_
            with_reducible refine (store_Many.calls kj21 _ _ l0_0 _ _ l0_1 a0_2 t264 _ ?side1 ?side2 ?side3 ?side4 A51.out).mono ?_
            (case side1 => exact zrc (Kd.C_below HR0_0.out HB.out))
            (case side2 => exact HC0_0.out)
            (case side3 => exact zrc (Kd.C_below HR0_1.out HB.out))
            (case side4 => exact HC0_1.out)
            rintro e w70 ⟨rfl, hb⟩
            refine ⟨_, rfl, ?_⟩
            replace HO250 := zqj (Kd.N_below (zrN HO250.out) hb); replace HO254 := zqj (Kd.N_below (zrN HO254.out) hb); replace HO259 := zqj (Kd.R_below (zrR HO259.out) hb); replace HO262 := zqj (Kd.R_below (zrR HO262.out) hb); replace BK239 := zqj (blk_below (g := gb239) (o := .cells #[.slice A0_0 l0_0.length c0_0, .slice A0_1 l0_1.length c0_1, .int .i64 a0_2] 25 (0, 0)) (zrb BK239.out) hb); replace BK240 := zqj (blk_below (g := gb240) (o := .cells #[.slice A2_0 l2_0.length c2_0, .slice A2_1 l2_1.length c2_1, .int .i64 a2_2] 25 (0, 0)) (zrb BK240.out) hb); replace HB := zqj (below_step (zrd2 HB.out GE239.out GE240.out) hb)
            (try clear hb); (try clear hb2); (try clear hk); (try clear hi)
            refine hK.out _ _ ⟨(blk_cell BK239.out 0).trans rfl, (blk_cell BK239.out 1).trans rfl, (blk_cell BK239.out 2).trans rfl, (blk_cell BK240.out 0).trans rfl, (blk_cell BK240.out 1).trans rfl, (blk_cell BK240.out 2).trans rfl⟩ (fun hHeld => ?_)
            clear hK K
            refine norm_ (a' := ?_) ?_ ?_
            rotate_left
            ·show Act.put _ (some 63) _ = _
             simp only [Act.put, zqk, zql, zqm, i64_w, i32_w]
             rfl
            refine one_ (i := 8) (N := some 65) (zb 21 511) rfl rfl (one_of HT_.out (by kernel_rfl)) (by decide) (fun K hK => ?_)
            refine goes_ Try.func20 (by kernel_rfl) rfl #[.agg #[.slice A0_0 l0_0.length c0_0, .slice A0_1 l0_1.length c0_1, .int .i64 a0_2]] (by rfl) rfl rfl zra ?_
            with_reducible refine (copyholdref12_Many.calls kj21 _ _ l0_0 _ _ l0_1 a0_2 t265 _ ?side1 ?side2 ?side3 ?side4 A52.out).mono ?_
            (case side1 => exact zrc (Kd.C_below HR0_0.out HB.out))
            (case side2 => exact HC0_0.out)
            (case side3 => exact zrc (Kd.C_below HR0_1.out HB.out))
            (case side4 => exact HC0_1.out)
            rintro e w71 ⟨rfl, hb⟩
            refine ⟨_, rfl, ?_⟩
            replace HO250 := zqj (Kd.N_below (zrN HO250.out) hb); replace HO254 := zqj (Kd.N_below (zrN HO254.out) hb); replace HO259 := zqj (Kd.R_below (zrR HO259.out) hb); replace HO262 := zqj (Kd.R_below (zrR HO262.out) hb); replace BK239 := zqj (blk_below (g := gb239) (o := .cells #[.slice A0_0 l0_0.length c0_0, .slice A0_1 l0_1.length c0_1, .int .i64 a0_2] 25 (0, 0)) (zrb BK239.out) hb); replace BK240 := zqj (blk_below (g := gb240) (o := .cells #[.slice A2_0 l2_0.length c2_0, .slice A2_1 l2_1.length c2_1, .int .i64 a2_2] 25 (0, 0)) (zrb BK240.out) hb); replace HB := zqj (below_step (zrd2 HB.out GE239.out GE240.out) hb)
            (try clear hb); (try clear hb2); (try clear hk); (try clear hi)
            refine hK.out _ _ ⟨(blk_cell BK239.out 0).trans rfl, (blk_cell BK239.out 1).trans rfl, (blk_cell BK239.out 2).trans rfl, (blk_cell BK240.out 0).trans rfl, (blk_cell BK240.out 1).trans rfl, (blk_cell BK240.out 2).trans rfl⟩ (fun hHeld => ?_)
            clear hK K
            refine norm_ (a' := ?_) ?_ ?_
            rotate_left
            ·show Act.put _ (some 65) _ = _
             simp only [Act.put, zqk, zql, zqm, i64_w, i32_w]
             rfl
            refine zp 9 66 (zb 21 1023) HT_.out ?_
            refine zp 10 67 (zb 21 2047) HT_.out ?_
            refine zp 11 68 (zb 21 4095) HT_.out ?_
            refine zt 12 69 (zb 21 8191) HT_.out HW_.out hHeld ?_
            refine zt 13 70 (zb 21 16383) HT_.out HW_.out hHeld ?_
            refine zt 15 72 (zb 21 49151) HT_.out HW_.out hHeld ?_
            refine zt 16 73 (zb 21 114687) HT_.out HW_.out hHeld ?_
            refine one_ (i := 14) (N := some 71) (zb 21 131071) rfl rfl (one_of HT_.out (by kernel_rfl)) (by decide) (fun K hK => ?_)
            refine goes_ Try.func21 (by kernel_rfl) rfl #[.agg #[.slice A0_0 l0_0.length c0_0, .slice A0_1 l0_1.length c0_1, .int .i64 a0_2], .agg #[.slice A2_0 l2_0.length c2_0, .slice A2_1 l2_1.length c2_1, .int .i64 a2_2]] (by rfl) rfl rfl zra ?_
            with_reducible refine (store_Same.calls _ _ l0_0 _ _ l0_1 a0_2 _ _ l2_0 _ _ l2_1 a2_2 t266 _ ?side1 ?side2 ?side3 ?side4 ?side5 ?side6 ?side7 ?side8 A54.out).mono ?_
            (case side1 => exact zrc (Kd.C_below HR0_0.out HB.out))
            (case side2 => exact HC0_0.out)
            (case side3 => exact zrc (Kd.C_below HR0_1.out HB.out))
            (case side4 => exact HC0_1.out)
            (case side5 => exact zrc (Kd.C_below HR2_0.out HB.out))
            (case side6 => exact HC2_0.out)
            (case side7 => exact zrc (Kd.C_below HR2_1.out HB.out))
            (case side8 => exact HC2_1.out)
            rintro e w72 ⟨rfl, hb⟩
            refine ⟨_, rfl, ?_⟩
            replace HO250 := zqj (Kd.N_below (zrN HO250.out) hb); replace HO254 := zqj (Kd.N_below (zrN HO254.out) hb); replace HO259 := zqj (Kd.R_below (zrR HO259.out) hb); replace HO262 := zqj (Kd.R_below (zrR HO262.out) hb); replace BK239 := zqj (blk_below (g := gb239) (o := .cells #[.slice A0_0 l0_0.length c0_0, .slice A0_1 l0_1.length c0_1, .int .i64 a0_2] 25 (0, 0)) (zrb BK239.out) hb); replace BK240 := zqj (blk_below (g := gb240) (o := .cells #[.slice A2_0 l2_0.length c2_0, .slice A2_1 l2_1.length c2_1, .int .i64 a2_2] 25 (0, 0)) (zrb BK240.out) hb); replace HB := zqj (below_step (zrd2 HB.out GE239.out GE240.out) hb)
            (try clear hb); (try clear hb2); (try clear hk); (try clear hi)
            refine hK.out _ _ ⟨(blk_cell BK239.out 0).trans rfl, (blk_cell BK239.out 1).trans rfl, (blk_cell BK239.out 2).trans rfl, (blk_cell BK240.out 0).trans rfl, (blk_cell BK240.out 1).trans rfl, (blk_cell BK240.out 2).trans rfl⟩ (fun hHeld => ?_)
            clear hK K
            refine norm_ (a' := ?_) ?_ ?_
            rotate_left
            ·show Act.put _ (some 71) _ = _
             simp only [Act.put, zqk, zql, zqm, i64_w, i32_w]
             rfl
            refine one_ (i := 17) (N := some 74) (zb 21 262143) rfl rfl (one_of HT_.out (by kernel_rfl)) (by decide) (fun K hK => ?_)
            refine goes_ Try.func22 (by kernel_rfl) rfl #[.agg #[.slice A0_0 l0_0.length c0_0, .slice A0_1 l0_1.length c0_1, .int .i64 a0_2], .agg #[.slice A2_0 l2_0.length c2_0, .slice A2_1 l2_1.length c2_1, .int .i64 a2_2]] (by rfl) rfl rfl zra ?_
            with_reducible refine (copyholdref12_Same.calls _ _ l0_0 _ _ l0_1 a0_2 _ _ l2_0 _ _ l2_1 a2_2 t267 _ ?side1 ?side2 ?side3 ?side4 ?side5 ?side6 ?side7 ?side8 A55.out).mono ?_
            (case side1 => exact zrc (Kd.C_below HR0_0.out HB.out))
            (case side2 => exact HC0_0.out)
            (case side3 => exact zrc (Kd.C_below HR0_1.out HB.out))
            (case side4 => exact HC0_1.out)
            (case side5 => exact zrc (Kd.C_below HR2_0.out HB.out))
            (case side6 => exact HC2_0.out)
            (case side7 => exact zrc (Kd.C_below HR2_1.out HB.out))
            (case side8 => exact HC2_1.out)
            rintro e w73 ⟨rfl, hb⟩
            refine ⟨_, rfl, ?_⟩
            replace HO250 := zqj (Kd.N_below (zrN HO250.out) hb); replace HO254 := zqj (Kd.N_below (zrN HO254.out) hb); replace HO259 := zqj (Kd.R_below (zrR HO259.out) hb); replace HO262 := zqj (Kd.R_below (zrR HO262.out) hb); replace BK239 := zqj (blk_below (g := gb239) (o := .cells #[.slice A0_0 l0_0.length c0_0, .slice A0_1 l0_1.length c0_1, .int .i64 a0_2] 25 (0, 0)) (zrb BK239.out) hb); replace BK240 := zqj (blk_below (g := gb240) (o := .cells #[.slice A2_0 l2_0.length c2_0, .slice A2_1 l2_1.length c2_1, .int .i64 a2_2] 25 (0, 0)) (zrb BK240.out) hb); replace HB := zqj (below_step (zrd2 HB.out GE239.out GE240.out) hb)
            (try clear hb); (try clear hb2); (try clear hk); (try clear hi)
            refine hK.out _ _ ⟨(blk_cell BK239.out 0).trans rfl, (blk_cell BK239.out 1).trans rfl, (blk_cell BK239.out 2).trans rfl, (blk_cell BK240.out 0).trans rfl, (blk_cell BK240.out 1).trans rfl, (blk_cell BK240.out 2).trans rfl⟩ (fun hHeld => ?_)
            clear hK K
            refine norm_ (a' := ?_) ?_ ?_
            rotate_left
            ·show Act.put _ (some 74) _ = _
             simp only [Act.put, zqk, zql, zqm, i64_w, i32_w]
             rfl
            refine zp 18 75 (zb 21 524287) HT_.out ?_
            refine zp 19 76 (zb 21 1048575) HT_.out ?_
            refine zp 20 6 (zb 21 2097151) HT_.out ?_
            refine done_ (done_of HT_.out (by kernel_rfl)) ?_
            try go_wp2
            go_ret
            exact ⟨zru, by repeat (first | (with_reducible first | exact HB.out | apply zqg | apply zqe | apply zqf | refine zqd ?_ GE239.out | refine zqd ?_ GE240.out) | exact HB.out)⟩
           ·rw [if_neg c53] at H
            exact absurd H (by simp)
          ·replace c50 := Bool.eq_false_iff.mpr c50
           subst c50
           have H1 : (none) = some r := by rw [if_neg (show ¬ (false = true) by decide)] at H; exact H
           clear H
           have H := H1
           clear H1
           exact absurd H (by simp)
         ·replace c49 := Bool.eq_false_iff.mpr c49
          subst c49
          have H1 : (none) = some r := by rw [if_neg (show ¬ (false = true) by decide)] at H; exact H
          clear H
          have H := H1
          clear H1
          exact absurd H (by simp)
        ·replace c45 := Bool.eq_false_iff.mpr c45
         subst c45
         have H1 : (none) = some r := by rw [if_neg (show ¬ (false = true) by decide)] at H; exact H
         clear H
         have H := H1
         clear H1
         exact absurd H (by simp)
       ·replace c41 := Bool.eq_false_iff.mpr c41
        subst c41
        have H1 : (some t241) = some r := by rw [if_neg (show ¬ (false = true) by decide)] at H; exact H
        clear H
        have H := H1
        clear H1
        obtain rfl := Option.some.inj H
        have hnb74 := NB240_239.out
        have hnc74 := NB239_240.out
        obtain ⟨hcz75_0, hcz75_1, hcz75_2⟩ := zc3 BK240.out
        (obtain ⟨hfz75_0, hfz75_1, hfz75_2⟩ := zf3 BK240.out)
        go_wp2_with (first | ((with_reducible refine gate_callee (f := 10) rfl ?_); refine goesL_ (some 38) rfl rfl Try.func10 (by kernel_rfl) rfl #[.agg #[.slice A2_0 l2_0.length c2_0, .slice A2_1 l2_1.length c2_1, .int .i64 a2_2]] rfl zra ?_; (with_reducible refine (copyholdref12_Right.calls kj21 _ _ l2_0 _ _ l2_1 a2_2 false _ ?side1 ?side2 ?side3 ?side4 A40.out).mono ?_); (case side1 => exact zrc (Kd.C_below HR2_0.out HB.out)); (case side2 => exact HC2_0.out); (case side3 => exact zrc (Kd.C_below HR2_1.out HB.out)); (case side4 => exact HC2_1.out); rintro e w76 ⟨rfl, hb⟩; refine ⟨_, rfl, ?_⟩; replace BK239 := zqj (blk_below (g := gb239) (o := .cells #[.slice A0_0 l0_0.length c0_0, .slice A0_1 l0_1.length c0_1, .int .i64 a0_2] 25 (0, 0)) (zrb BK239.out) hb); replace BK240 := zqj (blk_below (g := gb240) (o := .cells #[.slice A2_0 l2_0.length c2_0, .slice A2_1 l2_1.length c2_1, .int .i64 a2_2] 25 (0, 0)) (zrb BK240.out) hb); replace HB := zqj (below_step (zrd2 HB.out GE239.out GE240.out) hb); (try clear hb); (try clear hb2); (try clear hk); (try clear hi)))
        go_ret
        exact ⟨zru, by repeat (first | (with_reducible first | exact HB.out | apply zqg | apply zqe | apply zqf | refine zqd ?_ GE239.out | refine zqd ?_ GE240.out) | exact HB.out)⟩
end Go.Proofs.Ytdkgkiemndlneaa.Q
end
