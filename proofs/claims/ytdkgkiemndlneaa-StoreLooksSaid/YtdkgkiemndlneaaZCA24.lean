import Derived.Test.YtdkgkiemndlneaaZCA23
import Derived.Laws.Strings
import Derived.Laws.BytesArg
import Derived.Laws.BitsAllLaws
import Derived.RowKit
import Derived.WideShapes
import Derived.Lib.IndexLaws
import Derived.Lib.Hide
import Derived.Outline
import Derived.IntWalk
import Derived.Test.YtdkgkiemndlneaaProg
import Derived.Below
import Derived.Deep.Draws
import Derived.Deep.AppendLies
import Derived.Maps.AppendAt
import Derived.OwnWalk
import Derived.Laws.MakeOwn
import Derived.Laws.OwnMore
import Derived.Deep.OwnRows
import Derived.Tactics
import Derived.Lib.ConvBytes
import Derived.Laws.Slices
import Derived.WalkKit
import Derived.KernelRfl
import Derived.RowKit3
import Derived.Deep.LoopGhost
import Derived.Deep.QuietTactic
import Derived.BigQuiet
import Derived.WideLaws
import Derived.Deep.DeepCutAuto
import Derived.Deep.CutBlock
import Derived.Deep.RegionHeld3
import Derived.Laws.Rows
import Derived.Lib.AppendStr
import Derived.ArgAppend
import Derived.Laws.IdiomCopy
import Derived.OrdersHeld
import Derived.Laws.BitsLemmas
import Derived.Test.YtdkgkiemndlneaaZCA0
import Derived.Test.YtdkgkiemndlneaaZCA13
import Derived.Test.YtdkgkiemndlneaaZCA2
import Derived.Test.YtdkgkiemndlneaaZCA1
import Derived.Test.YtdkgkiemndlneaaZCA14
import Derived.Test.YtdkgkiemndlneaaZCA15
import Derived.Test.YtdkgkiemndlneaaZCA3
import Derived.Test.YtdkgkiemndlneaaZCA4
import Derived.Test.YtdkgkiemndlneaaZCA5
import Derived.Test.YtdkgkiemndlneaaZCA6
import Derived.Test.YtdkgkiemndlneaaZCA7
import Derived.Test.YtdkgkiemndlneaaZCA8
import Derived.Test.YtdkgkiemndlneaaZCA9
import Derived.Test.YtdkgkiemndlneaaZCA10
import Derived.Test.YtdkgkiemndlneaaZCA16
import Derived.Test.YtdkgkiemndlneaaZCA17
import Derived.Test.YtdkgkiemndlneaaZCA18
import Derived.Test.YtdkgkiemndlneaaZCA19
import Derived.Test.YtdkgkiemndlneaaZCA20
import Derived.Test.YtdkgkiemndlneaaZCA21
import Derived.Test.YtdkgkiemndlneaaZCA22
import Derived.Test.YtdkgkiemndlneaaZCA11
import Derived.Test.YtdkgkiemndlneaaZCA12
import Derived.Test.YtdkgkiemndlneaaZCAA
set_option linter.unusedVariables false
set_option linter.unusedSimpArgs false
section
namespace Go.Proofs.Ytdkgkiemndlneaa.X
open Go.RowKit Go.Proofs.YtdkgkiemndlneaaW.PrintWords Go.Proofs.YtdkgkiemndlneaaW.PrintLast Go.Proofs.YtdkgkiemndlneaaW.PrintMore
open Go.Proofs.Ytdkgkiemndlneaa.Q
attribute [local go_sem] max2_int min2_int max_two min_two max_three min_three max_four min_four   -- for this text's walks alone
attribute [local go_sem high] Go.Proofs.Ytdkgkiemndlneaa.px_xor_u8 Go.Proofs.Ytdkgkiemndlneaa.px_xor_u16 Go.Proofs.Ytdkgkiemndlneaa.px_xor_u32 Go.Proofs.Ytdkgkiemndlneaa.px_xor_u64
def node_Right.j0 : Nat → Bool → Int → Int → Int → ByteArray → List (S91) → Option (Bool)
 | 0, _, _, _, _, _, _ => none
 | k + 1, x31, x131000, x131001, x131002, x131003, x131004 => if x31 = true then (some false) else (if x131001 = 2 then (if x131003.toList = ([] : List UInt8) then ((name_Right.f k x131004).bind fun t131 => (some t131)) else (some false)) else (some ((x131004.length : Int) == 0)))
def node_Right.f (k : Nat) (a0_0 : Int) (a0_1 : Int) (a0_2 : Int) (a0_3 : ByteArray) (l0_4 : List (S91)) : Option (Bool) := if a0_0 < 1 then (node_Right.j0 k true a0_0 a0_1 a0_2 a0_3 l0_4) else (if a0_1 < 1 then (node_Right.j0 k true a0_0 a0_1 a0_2 a0_3 l0_4) else (if a0_1 > 3 then (node_Right.j0 k true a0_0 a0_1 a0_2 a0_3 l0_4) else (if a0_2 < 0 then (node_Right.j0 k true a0_0 a0_1 a0_2 a0_3 l0_4) else (if a0_2 > 64 then (node_Right.j0 k true a0_0 a0_1 a0_2 a0_3 l0_4) else (node_Right.j0 k (decide ((a0_3.size : Int) > 4096)) a0_0 a0_1 a0_2 a0_3 l0_4)))))
theorem node_Right.mono_l : ∀ k, (∀ y0 y1 y2 y3 y4 y5, LeO (node_Right.j0 k y0 y1 y2 y3 y4 y5) (node_Right.j0 (k + 1) y0 y1 y2 y3 y4 y5))
 | 0 => fun _ _ _ _ _ _ r h => by simp [node_Right.j0] at h
 | k + 1 => by
  have ih0 := node_Right.mono_l k
  ·intro y0 y1 y2 y3 y4 y5
   unfold node_Right.j0
   repeat' first
   | (with_reducible exact ih0 _ _ _ _ _ _)
   | (with_reducible exact name_Right.mono _ _)
   | (with_reducible exact LeO.refl _)
   | (with_reducible exact LeO.none _)
   | (with_reducible refine LeO.ite ?_ ?_)
   | (with_reducible refine LeO.bind ?_ (fun _ => ?_))
   | exact ih0 _ _ _ _ _ _
   | exact name_Right.mono _ _
   | exact LeO.none _
   | refine LeO.ite ?_ ?_
   | refine LeO.bind ?_ (fun _ => ?_)
theorem node_Right.mono : ∀ a0 a1 a2 a3 a4 k, LeO (node_Right.f k a0 a1 a2 a3 a4) (node_Right.f (k + 1) a0 a1 a2 a3 a4) := by
 intro a0 a1 a2 a3 a4 k
 have ih0 := node_Right.mono_l k
 unfold node_Right.f
 repeat' first
   | (with_reducible exact ih0 _ _ _ _ _ _)
   | (with_reducible exact name_Right.mono _ _)
   | (with_reducible exact LeO.refl _)
   | (with_reducible exact LeO.none _)
   | (with_reducible refine LeO.ite ?_ ?_)
   | (with_reducible refine LeO.bind ?_ (fun _ => ?_))
   | exact ih0 _ _ _ _ _ _
   | exact name_Right.mono _ _
   | exact LeO.none _
   | refine LeO.ite ?_ ?_
   | refine LeO.bind ?_ (fun _ => ?_)
set_option maxHeartbeats 8000000 in
set_option maxRecDepth 100000 in
theorem node_Right.calls (k : Nat) (a0_0 : Int) (a0_1 : Int) (a0_2 : Int) (a0_3 : ByteArray) (A0_4 : Option Addr) (c0_4 : Nat) (l0_4 : List (S91)) (r : Bool) (w : World) (hr0_4 : Kd.C k91 w A0_4 l0_4.length l0_4) (hc0_4 : l0_4.length ≤ c0_4) (h : node_Right.f k a0_0 a0_1 a0_2 a0_3 l0_4 = some r) :
  Calls Try.prog 57 #[.agg #[.int .i64 a0_0, .int .i64 a0_1, .int .i64 a0_2, .string a0_3, .slice A0_4 l0_4.length c0_4]] w fun e w' => e = .returned (.bool r) ∧ Below w.heap.size w w' := by
 have hu38 := Try.underlying38
 have HR0_4 := zqj hr0_4
 have HC0_4 := zqj hc0_4
 clear hr0_4 hc0_4
 have HB := zqj (Below.refl w.heap.size w)
 have H : (if a0_0 < 1 then (node_Right.j0 k true a0_0 a0_1 a0_2 a0_3 l0_4) else (if a0_1 < 1 then (node_Right.j0 k true a0_0 a0_1 a0_2 a0_3 l0_4) else (if a0_1 > 3 then (node_Right.j0 k true a0_0 a0_1 a0_2 a0_3 l0_4) else (if a0_2 < 0 then (node_Right.j0 k true a0_0 a0_1 a0_2 a0_3 l0_4) else (if a0_2 > 64 then (node_Right.j0 k true a0_0 a0_1 a0_2 a0_3 l0_4) else (node_Right.j0 k (decide ((a0_3.size : Int) > 4096)) a0_0 a0_1 a0_2 a0_3 l0_4)))))) = some r := h
 clear h
 have HC2 := zqj H
 clear H
 go_enter Try.func57, Try.ntmps57
 go_upto_region 1 with (first | ((with_reducible refine gate_dst (N := 1) rfl ?_); (try (refine gate_guard (by rfl) ?_; dsimp only)); refine box_event ?hg (N := 1) ?hd (cs := #[.int .i64 a0_0, .int .i64 a0_1, .int .i64 a0_2, .string a0_3, .slice A0_4 l0_4.length c0_4]) (t := 38) ?hr ?_; (case hd => rfl); (case hg => rfl); (case hr => exact zrr); intro gb130 hg w3 hbox hb; have n0_ := zqj (below_step (zrd0 HB.out) hb); have n1_ := zqj (hbox); have n2_ : Aside0 (w.heap.size ≤ gb130) := ⟨by rw [hg]; exact below_size (zrd0 HB.out)⟩; have n3_ := n2_; clear HB; have HB := n0_; have BK130 := n1_; have GW130 := n2_; have GE130 := n3_; clear n0_ n1_ n2_ n3_; clear hb hbox hg))
 (try simp only [Act.put, zqk, zql, zqm])
 go_cut [31] (fun v31 wc => ∃ (kq : Nat) (x31_1 : Bool), v31 = .bool x31_1 ∧ Aside0 (node_Right.j0 kq x31_1 a0_0 a0_1 a0_2 a0_3 l0_4 = some r) ∧ Aside0 (kq ≤ k) ∧ Aside0 (wc.heap[gb130]? = some (.cells #[.int .i64 a0_0, .int .i64 a0_1, .int .i64 a0_2, .string a0_3, (.slice A0_4 l0_4.length c0_4)] 38 (0, 0))) ∧ Aside0 (Below w.heap.size w wc))
 case first =>
  (have H := HC2.out; clear HC2)
  by_cases c4 : a0_0 < 1
  ·rw [if_pos c4] at H
   have c4b0 : decide (a0_0 < 1) = true := decide_eq_true c4
   clear c4
   (first | rw [c4b0] | (simp only [i64_w, i32_w]; rw [c4b0]) | skip)
   have H' := zqj H
   clear H
   obtain ⟨hcz5_0, hcz5_1, hcz5_2, hcz5_3, hcz5_4⟩ := zc5 BK130.out
   (obtain ⟨hfz5_0, hfz5_1, hfz5_2, hfz5_3, hfz5_4⟩ := zf5 BK130.out)
   go_wp2
   go_meet
   case rel => exact ⟨_, (true), zrt, H', ⟨by first | omega | exact Nat.le_refl _⟩, ⟨by (with_reducible repeat (first | refine zqa ?_ _ | refine zqb ?_ | refine zqc ?_ _)); exact BK130.out⟩, ⟨by repeat (first | (with_reducible first | exact HB.out | apply zqg | apply zqe | apply zqf | refine zqd ?_ GE130.out) | exact HB.out)⟩⟩
  ·rw [if_neg c4] at H
   have c4b0 : decide (a0_0 < 1) = false := decide_eq_false c4
   clear c4
   (first | rw [c4b0] | (simp only [i64_w, i32_w]; rw [c4b0]) | skip)
   by_cases c6 : a0_1 < 1
   ·rw [if_pos c6] at H
    have c6b0 : decide (a0_1 < 1) = true := decide_eq_true c6
    clear c6
    have H' := zqj H
    clear H
    obtain ⟨hcz7_0, hcz7_1, hcz7_2, hcz7_3, hcz7_4⟩ := zc5 BK130.out
    (obtain ⟨hfz7_0, hfz7_1, hfz7_2, hfz7_3, hfz7_4⟩ := zf5 BK130.out)
    go_wp2
    go_meet
    case rel => exact ⟨_, (true), zrt, H', ⟨by first | omega | exact Nat.le_refl _⟩, ⟨by (with_reducible repeat (first | refine zqa ?_ _ | refine zqb ?_ | refine zqc ?_ _)); exact BK130.out⟩, ⟨by repeat (first | (with_reducible first | exact HB.out | apply zqg | apply zqe | apply zqf | refine zqd ?_ GE130.out) | exact HB.out)⟩⟩
   ·rw [if_neg c6] at H
    have c6b0 : decide (a0_1 < 1) = false := decide_eq_false c6
    clear c6
    by_cases c8 : a0_1 > 3
    ·rw [if_pos c8] at H
     have c8b0 : decide (3 < a0_1) = true := decide_eq_true c8
     clear c8
     have H' := zqj H
     clear H
     obtain ⟨hcz9_0, hcz9_1, hcz9_2, hcz9_3, hcz9_4⟩ := zc5 BK130.out
     (obtain ⟨hfz9_0, hfz9_1, hfz9_2, hfz9_3, hfz9_4⟩ := zf5 BK130.out)
     go_wp2
     go_meet
     case rel => exact ⟨_, (true), zrt, H', ⟨by first | omega | exact Nat.le_refl _⟩, ⟨by (with_reducible repeat (first | refine zqa ?_ _ | refine zqb ?_ | refine zqc ?_ _)); exact BK130.out⟩, ⟨by repeat (first | (with_reducible first | exact HB.out | apply zqg | apply zqe | apply zqf | refine zqd ?_ GE130.out) | exact HB.out)⟩⟩
    ·rw [if_neg c8] at H
     have c8b0 : decide (3 < a0_1) = false := decide_eq_false c8
     clear c8
     by_cases c10 : a0_2 < 0
     ·rw [if_pos c10] at H
      have c10b0 : decide (a0_2 < 0) = true := decide_eq_true c10
      clear c10
      have H' := zqj H
      clear H
      obtain ⟨hcz11_0, hcz11_1, hcz11_2, hcz11_3, hcz11_4⟩ := zc5 BK130.out
      (obtain ⟨hfz11_0, hfz11_1, hfz11_2, hfz11_3, hfz11_4⟩ := zf5 BK130.out)
      go_wp2
      go_meet
      case rel => exact ⟨_, (true), zrt, H', ⟨by first | omega | exact Nat.le_refl _⟩, ⟨by (with_reducible repeat (first | refine zqa ?_ _ | refine zqb ?_ | refine zqc ?_ _)); exact BK130.out⟩, ⟨by repeat (first | (with_reducible first | exact HB.out | apply zqg | apply zqe | apply zqf | refine zqd ?_ GE130.out) | exact HB.out)⟩⟩
     ·rw [if_neg c10] at H
      have c10b0 : decide (a0_2 < 0) = false := decide_eq_false c10
      clear c10
      by_cases c12 : a0_2 > 64
      ·rw [if_pos c12] at H
       have c12b0 : decide (64 < a0_2) = true := decide_eq_true c12
       clear c12
       have H' := zqj H
       clear H
       obtain ⟨hcz13_0, hcz13_1, hcz13_2, hcz13_3, hcz13_4⟩ := zc5 BK130.out
       (obtain ⟨hfz13_0, hfz13_1, hfz13_2, hfz13_3, hfz13_4⟩ := zf5 BK130.out)
       go_wp2
       go_meet
       case rel => exact ⟨_, (true), zrt, H', ⟨by first | omega | exact Nat.le_refl _⟩, ⟨by (with_reducible repeat (first | refine zqa ?_ _ | refine zqb ?_ | refine zqc ?_ _)); exact BK130.out⟩, ⟨by repeat (first | (with_reducible first | exact HB.out | apply zqg | apply zqe | apply zqf | refine zqd ?_ GE130.out) | exact HB.out)⟩⟩
      ·rw [if_neg c12] at H
       have c12b0 : decide (64 < a0_2) = false := decide_eq_false c12
       clear c12
       have H' := zqj H
       clear H
       obtain ⟨hcz14_0, hcz14_1, hcz14_2, hcz14_3, hcz14_4⟩ := zc5 BK130.out
       (obtain ⟨hfz14_0, hfz14_1, hfz14_2, hfz14_3, hfz14_4⟩ := zf5 BK130.out)
       go_wp2
       go_meet
       case rel => exact ⟨_, (decide ((a0_3.size : Int) > 4096)), zrt, H', ⟨by first | omega | exact Nat.le_refl _⟩, ⟨by (with_reducible repeat (first | refine zqa ?_ _ | refine zqb ?_ | refine zqc ?_ _)); exact BK130.out⟩, ⟨by repeat (first | (with_reducible first | exact HB.out | apply zqg | apply zqe | apply zqf | refine zqd ?_ GE130.out) | exact HB.out)⟩⟩
 case rest =>
  (clear HC2; (try clear c1); (try clear p2); (try clear c4); (try clear c4b0); (try clear c5); (try clear c6); (try clear c6b0); (try clear c8); (try clear c8b0); (try clear c10); (try clear c10b0); (try clear c12); (try clear c12b0); (try clear hcz11_0); (try clear hcz11_1); (try clear hcz11_2); (try clear hcz11_3); (try clear hcz11_4); (try clear hcz13_0); (try clear hcz13_1); (try clear hcz13_2); (try clear hcz13_3); (try clear hcz13_4); (try clear hcz14_0); (try clear hcz14_1); (try clear hcz14_2); (try clear hcz14_3); (try clear hcz14_4); (try clear hcz5_0); (try clear hcz5_1); (try clear hcz5_2); (try clear hcz5_3); (try clear hcz5_4); (try clear hcz7_0); (try clear hcz7_1); (try clear hcz7_2); (try clear hcz7_3); (try clear hcz7_4); (try clear hcz9_0); (try clear hcz9_1); (try clear hcz9_2); (try clear hcz9_3); (try clear hcz9_4); (try clear hfz11_0); (try clear hfz11_1); (try clear hfz11_2); (try clear hfz11_3); (try clear hfz11_4); (try clear hfz13_0); (try clear hfz13_1); (try clear hfz13_2); (try clear hfz13_3); (try clear hfz13_4); (try clear hfz14_0); (try clear hfz14_1); (try clear hfz14_2); (try clear hfz14_3); (try clear hfz14_4); (try clear hfz5_0); (try clear hfz5_1); (try clear hfz5_2); (try clear hfz5_3); (try clear hfz5_4); (try clear hfz7_0); (try clear hfz7_1); (try clear hfz7_2); (try clear hfz7_3); (try clear hfz7_4); (try clear hfz9_0); (try clear hfz9_1); (try clear hfz9_2); (try clear hfz9_3); (try clear hfz9_4))
  obtain ⟨kq, x31_1, rfl, HA, HJ1, BK130, HB⟩ := hcut
  cases kq with
  | zero => exact absurd HA.out (by simp [node_Right.j0])
  | succ kj1 =>
   (have H := HA.out; clear HA)
   simp only [node_Right.j0] at H
   by_cases c15 : x31_1 = true
   ·subst c15
    have H1 : (some false) = some r := by rw [if_pos rfl] at H; exact H
    clear H
    have H := H1
    clear H1
    obtain rfl := Option.some.inj H
    go_wp2
    go_ret
    exact ⟨zru, by repeat (first | (with_reducible first | exact HB.out | apply zqg | apply zqe | apply zqf | refine zqd ?_ GE130.out) | exact HB.out)⟩
   ·replace c15 := Bool.eq_false_iff.mpr c15
    subst c15
    have H1 : (if a0_1 = 2 then (if a0_3.toList = ([] : List UInt8) then ((name_Right.f kj1 l0_4).bind fun t131 => (some t131)) else (some false)) else (some ((l0_4.length : Int) == 0))) = some r := by rw [if_neg (show ¬ (false = true) by decide)] at H; exact H
    clear H
    have H := H1
    clear H1
    by_cases c16 : a0_1 = 2
    ·rw [if_pos c16] at H
     have c16b0 : (a0_1 == 2) = true := beq_iff_eq.mpr c16
     have c16b1 : (a0_1 != 2) = false := bne_eq_false_iff_eq.mpr c16
     clear c16
     by_cases c17 : a0_3.toList = ([] : List UInt8)
     ·rw [if_pos c17] at H
      have c17b0 : (a0_3.toList == ([] : List UInt8)) = true := beq_iff_eq.mpr c17
      have c17b1 : (a0_3.toList != ([] : List UInt8)) = false := bne_eq_false_iff_eq.mpr c17
      clear c17
      replace H := zqn H
      obtain ⟨t131, A180, H⟩ := H
      replace H : (some t131) = some r := H
      have A18 := zqj A180
      clear A180
      obtain rfl := Option.some.inj H
      obtain ⟨hcz19_0, hcz19_1, hcz19_2, hcz19_3, hcz19_4⟩ := zc5 BK130.out
      (obtain ⟨hfz19_0, hfz19_1, hfz19_2, hfz19_3, hfz19_4⟩ := zf5 BK130.out)
      go_wp2_with (first | (go_at_call 66; (with_reducible refine (name_Right.calls kj1 _ _ l0_4 t131 _ ?side1 ?side2 A18.out).mono ?_); (case side1 => exact zrc (Kd.C_below HR0_4.out HB.out)); (case side2 => exact HC0_4.out); rintro e w20 ⟨rfl, hb⟩; replace BK130 := zqj (blk_below (g := gb130) (o := .cells #[.int .i64 a0_0, .int .i64 a0_1, .int .i64 a0_2, .string a0_3, .slice A0_4 l0_4.length c0_4] 38 (0, 0)) (zrb BK130.out) hb); replace HB := zqj (below_step (zrd1 HB.out GE130.out) hb); (try clear hb); (try clear hb2); (try clear hk); (try clear hi)))
      go_ret
      exact ⟨zru, by repeat (first | (with_reducible first | exact HB.out | apply zqg | apply zqe | apply zqf | refine zqd ?_ GE130.out) | exact HB.out)⟩
     ·rw [if_neg c17] at H
      have c17b0 : (a0_3.toList == ([] : List UInt8)) = false := beq_eq_false_iff_ne.mpr c17
      have c17b1 : (a0_3.toList != ([] : List UInt8)) = true := bne_iff_ne.mpr c17
      obtain rfl := Option.some.inj H
      obtain ⟨hcz21_0, hcz21_1, hcz21_2, hcz21_3, hcz21_4⟩ := zc5 BK130.out
      (obtain ⟨hfz21_0, hfz21_1, hfz21_2, hfz21_3, hfz21_4⟩ := zf5 BK130.out)
      go_wp2
      go_ret
      exact ⟨zru, by repeat (first | (with_reducible first | exact HB.out | apply zqg | apply zqe | apply zqf | refine zqd ?_ GE130.out) | exact HB.out)⟩
    ·rw [if_neg c16] at H
     have c16b0 : (a0_1 == 2) = false := beq_eq_false_iff_ne.mpr c16
     have c16b1 : (a0_1 != 2) = true := bne_iff_ne.mpr c16
     obtain rfl := Option.some.inj H
     obtain ⟨hcz22_0, hcz22_1, hcz22_2, hcz22_3, hcz22_4⟩ := zc5 BK130.out
     (obtain ⟨hfz22_0, hfz22_1, hfz22_2, hfz22_3, hfz22_4⟩ := zf5 BK130.out)
     go_wp2
     go_ret
     exact ⟨zru, by repeat (first | (with_reducible first | exact HB.out | apply zqg | apply zqe | apply zqf | refine zqd ?_ GE130.out) | exact HB.out)⟩
def store_own.f (k : Nat) (a0_0 : Int) (a0_1 : Bool) (a0_2 : Int) (a0_3 : Int) (a0_4 : Int) (a0_5 : ByteArray) (l0_6 : List (S91)) (a1 : Int) : Option (Bool) := if a0_1 = true then ((node_Same.f k a0_2 a0_3 a0_4 a0_5 l0_6 0 0 0 (⟨#[]⟩ : ByteArray) ([] : List (S91))).bind fun t133 => (some t133)) else (if a0_2 = a1 then ((node_Right.f k a0_2 a0_3 a0_4 a0_5 l0_6).bind fun t134 => (some t134)) else (some false))
theorem store_own.mono : ∀ a0 a1 a2 a3 a4 a5 a6 a7 k, LeO (store_own.f k a0 a1 a2 a3 a4 a5 a6 a7) (store_own.f (k + 1) a0 a1 a2 a3 a4 a5 a6 a7) := by
 intro a0 a1 a2 a3 a4 a5 a6 a7 k
 unfold store_own.f
 repeat' first
   | (with_reducible exact node_Right.mono _ _ _ _ _ _)
   | (with_reducible exact node_Same.mono _ _ _ _ _ _ _ _ _ _ _)
   | (with_reducible exact LeO.refl _)
   | (with_reducible exact LeO.none _)
   | (with_reducible refine LeO.ite ?_ ?_)
   | (with_reducible refine LeO.bind ?_ (fun _ => ?_))
   | exact node_Right.mono _ _ _ _ _ _
   | exact node_Same.mono _ _ _ _ _ _ _ _ _ _ _
   | exact LeO.none _
   | refine LeO.ite ?_ ?_
   | refine LeO.bind ?_ (fun _ => ?_)
set_option maxHeartbeats 8000000 in
set_option maxRecDepth 100000 in
theorem store_own.calls (k : Nat) (a0_0 : Int) (a0_1 : Bool) (a0_2 : Int) (a0_3 : Int) (a0_4 : Int) (a0_5 : ByteArray) (A0_6 : Option Addr) (c0_6 : Nat) (l0_6 : List (S91)) (a1 : Int) (r : Bool) (w : World) (hr0_6 : Kd.C k91 w A0_6 l0_6.length l0_6) (hc0_6 : l0_6.length ≤ c0_6) (h : store_own.f k a0_0 a0_1 a0_2 a0_3 a0_4 a0_5 l0_6 a1 = some r) :
  Calls Try.prog 38 #[.agg #[.int .i64 a0_0, .bool a0_1, .int .i64 a0_2, .int .i64 a0_3, .int .i64 a0_4, .string a0_5, .slice A0_6 l0_6.length c0_6], .int .i64 a1] w fun e w' => e = .returned (.bool r) ∧ Below w.heap.size w w' := by
 have hu58 := Try.underlying58
 have hu38 := Try.underlying38
 have HR0_6 := zqj hr0_6
 have HC0_6 := zqj hc0_6
 clear hr0_6 hc0_6
 have HB := zqj (Below.refl w.heap.size w)
 have H : (if a0_1 = true then ((node_Same.f k a0_2 a0_3 a0_4 a0_5 l0_6 0 0 0 (⟨#[]⟩ : ByteArray) ([] : List (S91))).bind fun t133 => (some t133)) else (if a0_2 = a1 then ((node_Right.f k a0_2 a0_3 a0_4 a0_5 l0_6).bind fun t134 => (some t134)) else (some false))) = some r := h
 clear h
 by_cases c3 : a0_1 = true
 ·subst c3
  have H1 : ((node_Same.f k a0_2 a0_3 a0_4 a0_5 l0_6 0 0 0 (⟨#[]⟩ : ByteArray) ([] : List (S91))).bind fun t133 => (some t133)) = some r := by rw [if_pos rfl] at H; exact H
  clear H
  have H := H1
  clear H1
  replace H := zqn H
  obtain ⟨t133, A40, H⟩ := H
  replace H : (some t133) = some r := H
  have A4 := zqj A40
  clear A40
  obtain rfl := Option.some.inj H
  go_enter Try.func38, Try.ntmps38
  go_wp2_with (first | ((with_reducible refine gate_dst (N := 2) rfl ?_); refine box_event ?hg (N := 2) ?hd (cs := #[.int .i64 a0_0, .bool true, .int .i64 a0_2, .int .i64 a0_3, .int .i64 a0_4, .string a0_5, .slice A0_6 l0_6.length c0_6]) (t := 58) ?hr ?_; (case hd => rfl); (case hg => rfl); (case hr => exact zrr); intro gb132 hg w5 hbox hb; have n0_ := zqj (below_step (zrd0 HB.out) hb); have n1_ := zqj (hbox); have n2_ : Aside0 (w.heap.size ≤ gb132) := ⟨by rw [hg]; exact below_size (zrd0 HB.out)⟩; have n3_ := n2_; clear HB; have HB := n0_; have BK132 := n1_; have GW132 := n2_; have GE132 := n3_; clear n0_ n1_ n2_ n3_; clear hb hbox hg; obtain ⟨hcz6_0, hcz6_1, hcz6_2, hcz6_3, hcz6_4, hcz6_5, hcz6_6⟩ := zc7 BK132.out; obtain ⟨hfz6_0, hfz6_1, hfz6_2, hfz6_3, hfz6_4, hfz6_5, hfz6_6⟩ := zf7 BK132.out) | ((with_reducible refine gate_callee (f := 45) rfl ?_); refine goesL_ (some 10) rfl rfl Try.func45 (by kernel_rfl) rfl #[.agg #[.int .i64 a0_2, .int .i64 a0_3, .int .i64 a0_4, .string a0_5, .slice A0_6 l0_6.length c0_6], .agg #[.int .i64 0, .int .i64 0, .int .i64 0, .string (⟨#[]⟩ : ByteArray), .slice none 0 0]] rfl zra ?_; (refine (node_Same.calls k a0_2 a0_3 a0_4 a0_5 _ _ l0_6 0 0 0 (⟨#[]⟩ : ByteArray) _ _ ([] : List (S91)) t133 _ ?side1 ?side2 ?side3 ?side4 A4.out).mono ?_); (case side1 => exact zrc (Kd.C_below HR0_6.out HB.out)); (case side2 => exact HC0_6.out); (case side3 => exact Kd.C_nil _ _); (case side4 => exact Nat.le_refl _); rintro e w7 ⟨rfl, hb⟩; refine ⟨_, rfl, ?_⟩; replace BK132 := zqj (blk_below (g := gb132) (o := .cells #[.int .i64 a0_0, .bool true, .int .i64 a0_2, .int .i64 a0_3, .int .i64 a0_4, .string a0_5, .slice A0_6 l0_6.length c0_6] 58 (0, 0)) (zrb BK132.out) hb); replace HB := zqj (below_step (zrd1 HB.out GE132.out) hb); (try clear hb); (try clear hb2); (try clear hk); (try clear hi)))
  go_ret
  exact ⟨zru, by repeat (first | (with_reducible first | exact HB.out | apply zqg | apply zqe | apply zqf | refine zqd ?_ GE132.out) | exact HB.out)⟩
 ·replace c3 := Bool.eq_false_iff.mpr c3
  subst c3
  have H1 : (if a0_2 = a1 then ((node_Right.f k a0_2 a0_3 a0_4 a0_5 l0_6).bind fun t134 => (some t134)) else (some false)) = some r := by rw [if_neg (show ¬ (false = true) by decide)] at H; exact H
  clear H
  have H := H1
  clear H1
  by_cases c8 : a0_2 = a1
  ·rw [if_pos c8] at H
   have c8b0 : (a0_2 == a1) = true := beq_iff_eq.mpr c8
   have c8b1 : (a0_2 != a1) = false := bne_eq_false_iff_eq.mpr c8
   clear c8
   replace H := zqn H
   obtain ⟨t134, A90, H⟩ := H
   replace H : (some t134) = some r := H
   have A9 := zqj A90
   clear A90
   obtain rfl := Option.some.inj H
   go_enter Try.func38, Try.ntmps38
   go_wp2_with (first | ((with_reducible refine gate_dst (N := 2) rfl ?_); refine box_event ?hg (N := 2) ?hd (cs := #[.int .i64 a0_0, .bool false, .int .i64 a0_2, .int .i64 a0_3, .int .i64 a0_4, .string a0_5, .slice A0_6 l0_6.length c0_6]) (t := 58) ?hr ?_; (case hd => rfl); (case hg => rfl); (case hr => exact zrr); intro gb132 hg w10 hbox hb; have n0_ := zqj (below_step (zrd0 HB.out) hb); have n1_ := zqj (hbox); have n2_ : Aside0 (w.heap.size ≤ gb132) := ⟨by rw [hg]; exact below_size (zrd0 HB.out)⟩; have n3_ := n2_; clear HB; have HB := n0_; have BK132 := n1_; have GW132 := n2_; have GE132 := n3_; clear n0_ n1_ n2_ n3_; clear hb hbox hg; obtain ⟨hcz11_0, hcz11_1, hcz11_2, hcz11_3, hcz11_4, hcz11_5, hcz11_6⟩ := zc7 BK132.out; obtain ⟨hfz11_0, hfz11_1, hfz11_2, hfz11_3, hfz11_4, hfz11_5, hfz11_6⟩ := zf7 BK132.out) | (go_at_call 57; (with_reducible refine (node_Right.calls k a0_2 a0_3 a0_4 a0_5 _ _ l0_6 t134 _ ?side1 ?side2 A9.out).mono ?_); (case side1 => exact zrc (Kd.C_below HR0_6.out HB.out)); (case side2 => exact HC0_6.out); rintro e w12 ⟨rfl, hb⟩; replace BK132 := zqj (blk_below (g := gb132) (o := .cells #[.int .i64 a0_0, .bool false, .int .i64 a0_2, .int .i64 a0_3, .int .i64 a0_4, .string a0_5, .slice A0_6 l0_6.length c0_6] 58 (0, 0)) (zrb BK132.out) hb); replace HB := zqj (below_step (zrd1 HB.out GE132.out) hb); (try clear hb); (try clear hb2); (try clear hk); (try clear hi)))
   go_ret
   exact ⟨zru, by repeat (first | (with_reducible first | exact HB.out | apply zqg | apply zqe | apply zqf | refine zqd ?_ GE132.out) | exact HB.out)⟩
  ·rw [if_neg c8] at H
   have c8b0 : (a0_2 == a1) = false := beq_eq_false_iff_ne.mpr c8
   have c8b1 : (a0_2 != a1) = true := bne_iff_ne.mpr c8
   obtain rfl := Option.some.inj H
   go_enter Try.func38, Try.ntmps38
   go_wp2_with (first | ((with_reducible refine gate_dst (N := 2) rfl ?_); refine box_event ?hg (N := 2) ?hd (cs := #[.int .i64 a0_0, .bool false, .int .i64 a0_2, .int .i64 a0_3, .int .i64 a0_4, .string a0_5, .slice A0_6 l0_6.length c0_6]) (t := 58) ?hr ?_; (case hd => rfl); (case hg => rfl); (case hr => exact zrr); intro gb132 hg w13 hbox hb; have n0_ := zqj (below_step (zrd0 HB.out) hb); have n1_ := zqj (hbox); have n2_ : Aside0 (w.heap.size ≤ gb132) := ⟨by rw [hg]; exact below_size (zrd0 HB.out)⟩; have n3_ := n2_; clear HB; have HB := n0_; have BK132 := n1_; have GW132 := n2_; have GE132 := n3_; clear n0_ n1_ n2_ n3_; clear hb hbox hg; obtain ⟨hcz14_0, hcz14_1, hcz14_2, hcz14_3, hcz14_4, hcz14_5, hcz14_6⟩ := zc7 BK132.out; obtain ⟨hfz14_0, hfz14_1, hfz14_2, hfz14_3, hfz14_4, hfz14_5, hfz14_6⟩ := zf7 BK132.out))
   go_ret
   exact ⟨zru, by repeat (first | (with_reducible first | exact HB.out | apply zqg | apply zqe | apply zqf | refine zqd ?_ GE132.out) | exact HB.out)⟩
mutual
def copyholdref06_Check.j0 : Nat → ByteArray → Bool → Option (Int)
 | 0, _, _ => none
 | k + 1, x0, x19 => if x19 = true then (some 10) else (copyholdref06_Check.l0 k x0 0)
def copyholdref06_Check.l0 : Nat → ByteArray → Int → Option (Int)
 | 0, _, _ => none
 | k + 1, x0, x3 => if x3 < (x0.size : Int) then (if 0 ≤ x3 then (if (bt x0 x3) = 47 then (some 10) else (if (bt x0 x3) = 0 then (some 10) else (copyholdref06_Check.l0 k x0 (wrap64 (x3 + 1))))) else (none)) else (some 0)
end
def copyholdref06_Check.f (k : Nat) (a0 : ByteArray) : Option (Int) := if (a0.size : Int) < 1 then (copyholdref06_Check.j0 k a0 true) else (if (a0.size : Int) > 32 then (copyholdref06_Check.j0 k a0 true) else (if a0.toList = ([46] : List UInt8) then (copyholdref06_Check.j0 k a0 true) else (copyholdref06_Check.j0 k a0 (a0.toList == ([46, 46] : List UInt8)))))
theorem copyholdref06_Check.mono_l : ∀ k, (∀ y0 y1, LeO (copyholdref06_Check.j0 k y0 y1) (copyholdref06_Check.j0 (k + 1) y0 y1)) ∧ (∀ y0 y1, LeO (copyholdref06_Check.l0 k y0 y1) (copyholdref06_Check.l0 (k + 1) y0 y1))
 | 0 => ⟨fun _ _ r h => by simp [copyholdref06_Check.j0] at h, fun _ _ r h => by simp [copyholdref06_Check.l0] at h⟩
 | k + 1 => by
  obtain ⟨ih0, ih1⟩ := copyholdref06_Check.mono_l k
  refine ⟨?_, ?_⟩
  ·intro y0 y1
   unfold copyholdref06_Check.j0
   repeat' first
   | (with_reducible exact ih0 _ _)
   | (with_reducible exact ih1 _ _)
   | (with_reducible exact LeO.refl _)
   | (with_reducible exact LeO.none _)
   | (with_reducible refine LeO.ite ?_ ?_)
   | (with_reducible refine LeO.bind ?_ (fun _ => ?_))
   | exact ih0 _ _
   | exact ih1 _ _
   | exact LeO.none _
   | refine LeO.ite ?_ ?_
   | refine LeO.bind ?_ (fun _ => ?_)
  ·intro y0 y1
   unfold copyholdref06_Check.l0
   repeat' first
   | (with_reducible exact ih0 _ _)
   | (with_reducible exact ih1 _ _)
   | (with_reducible exact LeO.refl _)
   | (with_reducible exact LeO.none _)
   | (with_reducible refine LeO.ite ?_ ?_)
   | (with_reducible refine LeO.bind ?_ (fun _ => ?_))
   | exact ih0 _ _
   | exact ih1 _ _
   | exact LeO.none _
   | refine LeO.ite ?_ ?_
   | refine LeO.bind ?_ (fun _ => ?_)
theorem copyholdref06_Check.mono : ∀ a0 k, LeO (copyholdref06_Check.f k a0) (copyholdref06_Check.f (k + 1) a0) := by
 intro a0 k
 obtain ⟨ih0, ih1⟩ := copyholdref06_Check.mono_l k
 unfold copyholdref06_Check.f
 repeat' first
   | (with_reducible exact ih0 _ _)
   | (with_reducible exact ih1 _ _)
   | (with_reducible exact LeO.refl _)
   | (with_reducible exact LeO.none _)
   | (with_reducible refine LeO.ite ?_ ?_)
   | (with_reducible refine LeO.bind ?_ (fun _ => ?_))
   | exact ih0 _ _
   | exact ih1 _ _
   | exact LeO.none _
   | refine LeO.ite ?_ ?_
   | refine LeO.bind ?_ (fun _ => ?_)
set_option maxHeartbeats 8000000 in
set_option maxRecDepth 100000 in
theorem copyholdref06_Check.calls (k : Nat) (a0 : ByteArray) (r : Int) (w : World) (h : copyholdref06_Check.f k a0 = some r) :
  Calls Try.prog 69 #[.string a0] w fun e w' => e = .returned (.int .i64 r) ∧ Drawn0 w w' := by
 have H : (if (a0.size : Int) < 1 then (copyholdref06_Check.j0 k a0 true) else (if (a0.size : Int) > 32 then (copyholdref06_Check.j0 k a0 true) else (if a0.toList = ([46] : List UInt8) then (copyholdref06_Check.j0 k a0 true) else (copyholdref06_Check.j0 k a0 (a0.toList == ([46, 46] : List UInt8)))))) = some r := h
 clear h
 have HC2 := zqj H
 clear H
 go_enter Try.func69, Try.ntmps69
 go_upto_region 1 with (fail)
 go_cut [19] (fun v19 wc => ∃ (kq : Nat) (x19_1 : Bool), v19 = .bool x19_1 ∧ Aside0 (copyholdref06_Check.j0 kq a0 x19_1 = some r) ∧ Aside0 (kq ≤ k) ∧ Drawn0 w wc)
 case first =>
  (have H := HC2.out; clear HC2)
  by_cases c3 : (a0.size : Int) < 1
  ·rw [if_pos c3] at H
   have c3b0 : decide ((a0.size : Int) < 1) = true := decide_eq_true c3
   have c3b1 : decide (a0.size < 1) = true := decide_eq_true (by omega)
   clear c3
   (first | rw [c3b0] | (simp only [i64_w, i32_w]; rw [c3b0]) | skip)
   have H' := zqj H
   clear H
   go_wp2
   go_meet
   case rel => exact ⟨_, (true), zrt, H', ⟨by first | omega | exact Nat.le_refl _⟩, by repeat (first | exact Drawn0.refl _ | apply Drawn0.step)⟩
  ·rw [if_neg c3] at H
   have c3b0 : decide ((a0.size : Int) < 1) = false := decide_eq_false c3
   have c3b1 : decide (a0.size < 1) = false := decide_eq_false (by omega)
   clear c3
   (first | rw [c3b0] | (simp only [i64_w, i32_w]; rw [c3b0]) | skip)
   by_cases c4 : (a0.size : Int) > 32
   ·rw [if_pos c4] at H
    have c4b0 : decide (32 < (a0.size : Int)) = true := decide_eq_true c4
    have c4b1 : decide (32 < a0.size) = true := decide_eq_true (by omega)
    clear c4
    have H' := zqj H
    clear H
    go_wp2
    go_meet
    case rel => exact ⟨_, (true), zrt, H', ⟨by first | omega | exact Nat.le_refl _⟩, by repeat (first | exact Drawn0.refl _ | apply Drawn0.step)⟩
   ·rw [if_neg c4] at H
    have c4b0 : decide (32 < (a0.size : Int)) = false := decide_eq_false c4
    have c4b1 : decide (32 < a0.size) = false := decide_eq_false (by omega)
    clear c4
    by_cases c5 : a0.toList = ([46] : List UInt8)
    ·rw [if_pos c5] at H
     have c5b0 : (a0.toList == ([46] : List UInt8)) = true := beq_iff_eq.mpr c5
     have c5b1 : (a0.toList != ([46] : List UInt8)) = false := bne_eq_false_iff_eq.mpr c5
     clear c5
     have H' := zqj H
     clear H
     go_wp2
     go_meet
     case rel => exact ⟨_, (true), zrt, H', ⟨by first | omega | exact Nat.le_refl _⟩, by repeat (first | exact Drawn0.refl _ | apply Drawn0.step)⟩
    ·rw [if_neg c5] at H
     have c5b0 : (a0.toList == ([46] : List UInt8)) = false := beq_eq_false_iff_ne.mpr c5
     have c5b1 : (a0.toList != ([46] : List UInt8)) = true := bne_iff_ne.mpr c5
     have H' := zqj H
     clear H
     go_wp2
     go_meet
     case rel => exact ⟨_, ((a0.toList == ([46, 46] : List UInt8))), zrt, H', ⟨by first | omega | exact Nat.le_refl _⟩, by repeat (first | exact Drawn0.refl _ | apply Drawn0.step)⟩
 case rest =>
  (clear HC2; (try clear p2); (try clear c3); (try clear c3b0); (try clear c3b1); (try clear c4); (try clear c4b0); (try clear c4b1); (try clear c5); (try clear c5b0); (try clear c5b1))
  obtain ⟨kq, x19_1, rfl, HA, HJ1, ⟨mc1, rfl⟩⟩ := hcut
  cases kq with
  | zero => exact absurd HA.out (by simp [copyholdref06_Check.j0])
  | succ kj1 =>
   (have H := HA.out; clear HA)
   simp only [copyholdref06_Check.j0] at H
   by_cases c6 : x19_1 = true
   ·subst c6
    have H1 : (some 10) = some r := by rw [if_pos rfl] at H; exact H
    clear H
    have H := H1
    clear H1
    obtain rfl := Option.some.inj H
    go_wp2
    go_ret
    exact ⟨by first | rfl | (simp; done) | (simp [*]; done), by repeat (first | exact Drawn0.refl _ | apply Drawn0.step)⟩
   ·replace c6 := Bool.eq_false_iff.mpr c6
    subst c6
    have H1 : (copyholdref06_Check.l0 kj1 a0 0) = some r := by rw [if_neg (show ¬ (false = true) by decide)] at H; exact H
    clear H
    have H := H1
    clear H1
    have H' := zqj H
    clear H
    go_wp2
    go_loopg [3] kj1 (fun kq v3 w' => ∃ (x3_2 : Int), v3 = .int .i64 x3_2 ∧ Aside0 (copyholdref06_Check.l0 kq a0 x3_2 = some r) ∧ Aside0 (kq ≤ kj1) ∧ Drawn0 w w')
    case atStart => exact ⟨(0), zrt, H', ⟨Nat.le_refl _⟩, by repeat (first | exact Drawn0.refl _ | apply Drawn0.step)⟩
    case round =>
     clear H'
     ((try clear c1); (try clear p2); (try clear c3); (try clear c3b0); (try clear c3b1); (try clear c4); (try clear c4b0); (try clear c4b1); (try clear c5); (try clear c5b0); (try clear c5b1); (try clear c6); (try clear p2))
     obtain ⟨x3_2, rfl, HA, HK2, ⟨m2, rfl⟩⟩ := hrel
     cases gk with
     | zero => exact absurd HA.out (by simp [copyholdref06_Check.l0])
     | succ k2 =>
      (have H := HA.out; clear HA)
      simp only [copyholdref06_Check.l0] at H
      by_cases c7 : x3_2 < (a0.size : Int)
      ·rw [if_pos c7] at H
       have c7b0 : decide (x3_2 < (a0.size : Int)) = true := decide_eq_true c7
       clear c7
       by_cases c8 : 0 ≤ x3_2
       ·rw [if_pos c8] at H
        have c8b0 : decide (0 ≤ x3_2) = true := decide_eq_true c8
        clear c8
        by_cases c10 : (bt a0 x3_2) = 47
        ·rw [if_pos c10] at H
         have c10b0 : ((bt a0 x3_2) == 47) = true := beq_iff_eq.mpr c10
         have c10b1 : ((bt a0 x3_2) != 47) = false := bne_eq_false_iff_eq.mpr c10
         clear c10
         obtain rfl := Option.some.inj H
         have p9 : 0 ≤ (x3_2 : Int) := zqh zrs
         have q9 : x3_2 < (a0.size : Int) := zqh zrs
         have hx9 := bt_at a0 x3_2
         replace p9 := eq_true p9
         replace q9 := eq_true q9
         go_wp2
         go_ret
         exact ⟨by first | rfl | (simp; done) | (simp [*]; done), by repeat (first | exact Drawn0.refl _ | apply Drawn0.step)⟩
        ·rw [if_neg c10] at H
         have c10b0 : ((bt a0 x3_2) == 47) = false := beq_eq_false_iff_ne.mpr c10
         have c10b1 : ((bt a0 x3_2) != 47) = true := bne_iff_ne.mpr c10
         by_cases c12 : (bt a0 x3_2) = 0
         ·rw [if_pos c12] at H
          have c12b0 : ((bt a0 x3_2) == 0) = true := beq_iff_eq.mpr c12
          have c12b1 : ((bt a0 x3_2) != 0) = false := bne_eq_false_iff_eq.mpr c12
          clear c12
          obtain rfl := Option.some.inj H
          have p9 : 0 ≤ (x3_2 : Int) := zqh zrs
          have q9 : x3_2 < (a0.size : Int) := zqh zrs
          have hx9 := bt_at a0 x3_2
          replace p9 := eq_true p9
          replace q9 := eq_true q9
          have p11 : 0 ≤ (x3_2 : Int) := zqh zrs
          have q11 : x3_2 < (a0.size : Int) := zqh zrs
          have hx11 := bt_at a0 x3_2
          replace p11 := eq_true p11
          replace q11 := eq_true q11
          go_wp2
          go_ret
          exact ⟨by first | rfl | (simp; done) | (simp [*]; done), by repeat (first | exact Drawn0.refl _ | apply Drawn0.step)⟩
         ·rw [if_neg c12] at H
          have c12b0 : ((bt a0 x3_2) == 0) = false := beq_eq_false_iff_ne.mpr c12
          have c12b1 : ((bt a0 x3_2) != 0) = true := bne_iff_ne.mpr c12
          have H' := zqj H
          clear H
          have p9 : 0 ≤ (x3_2 : Int) := zqh zrs
          have q9 : x3_2 < (a0.size : Int) := zqh zrs
          have hx9 := bt_at a0 x3_2
          replace p9 := eq_true p9
          replace q9 := eq_true q9
          have p11 : 0 ≤ (x3_2 : Int) := zqh zrs
          have q11 : x3_2 < (a0.size : Int) := zqh zrs
          have hx11 := bt_at a0 x3_2
          replace p11 := eq_true p11
          replace q11 := eq_true q11
          go_wp2
          go_roundg k2
          case measure => have := HJ1.out; have := HK2.out; omega
          case rel => exact ⟨(wrap64 (x3_2 + 1)), zrt, H', ⟨by have := HJ1.out; have := HK2.out; omega⟩, by repeat (first | exact Drawn0.refl _ | apply Drawn0.step)⟩
       ·rw [if_neg c8] at H
        exact absurd H (by simp)
      ·rw [if_neg c7] at H
       have c7b0 : decide (x3_2 < (a0.size : Int)) = false := decide_eq_false c7
       clear c7
       obtain rfl := Option.some.inj H
       go_wp2
       go_ret
       exact ⟨by first | rfl | (simp; done) | (simp [*]; done), by repeat (first | exact Drawn0.refl _ | apply Drawn0.step)⟩
def copyholdref06_Right.l0 : Nat → List (S91) → Int → Option (Bool)
 | 0, _, _ => none
 | k + 1, x0, x3 => if x3 < (x0.length : Int) then (if 0 ≤ x3 then ((copyholdref06_Check.f k ((rd_T91 x0 x3).f0)).bind fun t136 => (if t136 = 0 then (if ((rd_T91 x0 x3).f1) < 1 then (some false) else (if x3 > 0 then (if 0 ≤ (wrap64 (x3 - 1)) then (if (wrap64 (x3 - 1)) < (x0.length : Int) then (if ((Op.bytesLess (((rd_T91 x0 (wrap64 (x3 - 1))).f0).toList) (((rd_T91 x0 x3).f0).toList)) = true) then (copyholdref06_Right.l0 k x0 (wrap64 (x3 + 1))) else (some false)) else (none)) else (none)) else (copyholdref06_Right.l0 k x0 (wrap64 (x3 + 1))))) else (some false))) else (none)) else (some true)
def copyholdref06_Right.f (k : Nat) (l0 : List (S91)) : Option (Bool) := if (l0.length : Int) > 256 then (some false) else (copyholdref06_Right.l0 k l0 0)
theorem copyholdref06_Right.mono_l : ∀ k, (∀ y0 y1, LeO (copyholdref06_Right.l0 k y0 y1) (copyholdref06_Right.l0 (k + 1) y0 y1))
 | 0 => fun _ _ r h => by simp [copyholdref06_Right.l0] at h
 | k + 1 => by
  have ih0 := copyholdref06_Right.mono_l k
  ·intro y0 y1
   unfold copyholdref06_Right.l0
   repeat' first
   | (with_reducible exact ih0 _ _)
   | (with_reducible exact copyholdref06_Check.mono _ _)
   | (with_reducible exact LeO.refl _)
   | (with_reducible exact LeO.none _)
   | (with_reducible refine LeO.ite ?_ ?_)
   | (with_reducible refine LeO.bind ?_ (fun _ => ?_))
   | exact ih0 _ _
   | exact copyholdref06_Check.mono _ _
   | exact LeO.none _
   | refine LeO.ite ?_ ?_
   | refine LeO.bind ?_ (fun _ => ?_)
theorem copyholdref06_Right.mono : ∀ a0 k, LeO (copyholdref06_Right.f k a0) (copyholdref06_Right.f (k + 1) a0) := by
 intro a0 k
 have ih0 := copyholdref06_Right.mono_l k
 unfold copyholdref06_Right.f
 repeat' first
   | (with_reducible exact ih0 _ _)
   | (with_reducible exact copyholdref06_Check.mono _ _)
   | (with_reducible exact LeO.refl _)
   | (with_reducible exact LeO.none _)
   | (with_reducible refine LeO.ite ?_ ?_)
   | (with_reducible refine LeO.bind ?_ (fun _ => ?_))
   | exact ih0 _ _
   | exact copyholdref06_Check.mono _ _
   | exact LeO.none _
   | refine LeO.ite ?_ ?_
   | refine LeO.bind ?_ (fun _ => ?_)
set_option maxHeartbeats 8000000 in
set_option maxRecDepth 100000 in
theorem copyholdref06_Right.calls (k : Nat) (A0 : Option Addr) (c0 : Nat) (l0 : List (S91)) (r : Bool) (w : World) (hr0 : Kd.C k91 w A0 l0.length l0) (hc0 : l0.length ≤ c0) (h : copyholdref06_Right.f k l0 = some r) :
  Calls Try.prog 62 #[.slice A0 l0.length c0] w fun e w' => e = .returned (.bool r) ∧ Drawn0 w w' := by
 have HR0 := zqj hr0
 have HC0 := zqj hc0
 clear hr0 hc0
 have H : (if (l0.length : Int) > 256 then (some false) else (copyholdref06_Right.l0 k l0 0)) = some r := h
 clear h
 by_cases c2 : (l0.length : Int) > 256
 ·rw [if_pos c2] at H
  have c2b0 : decide (256 < (l0.length : Int)) = true := decide_eq_true c2
  have c2b1 : decide (256 < l0.length) = true := decide_eq_true (by omega)
  clear c2
  obtain rfl := Option.some.inj H
  go_enter Try.func62, Try.ntmps62
  go_wp2
  repeat (go_quiet (fail); try go_wp2)
  go_ret
  exact ⟨by first | rfl | (simp; done) | (simp [*]; done), by repeat (first | exact Drawn0.refl _ | apply Drawn0.step)⟩
 ·rw [if_neg c2] at H
  have c2b0 : decide (256 < (l0.length : Int)) = false := decide_eq_false c2
  have c2b1 : decide (256 < l0.length) = false := decide_eq_false (by omega)
  clear c2
  have H' := zqj H
  clear H
  go_enter Try.func62, Try.ntmps62
  go_wp2
  repeat (go_quiet (fail); try go_wp2)
  go_loopg [3] k (fun kq v3 w' => ∃ (x3_1 : Int), v3 = .int .i64 x3_1 ∧ Aside0 (copyholdref06_Right.l0 kq l0 x3_1 = some r) ∧ Aside0 (kq ≤ k) ∧ Drawn0 w w')
  case atStart => exact ⟨(0), zrt, H', ⟨Nat.le_refl _⟩, by repeat (first | exact Drawn0.refl _ | apply Drawn0.step)⟩
  case round =>
   clear H'
   ((try clear c2); (try clear c2b0); (try clear c2b1); (try clear p2))
   obtain ⟨x3_1, rfl, HA, HK1, ⟨m1, rfl⟩⟩ := hrel
   cases gk with
   | zero => exact absurd HA.out (by simp [copyholdref06_Right.l0])
   | succ k1 =>
    (have H := HA.out; clear HA)
    simp only [copyholdref06_Right.l0] at H
    by_cases c3 : x3_1 < (l0.length : Int)
    ·rw [if_pos c3] at H
     have c3b0 : decide (x3_1 < (l0.length : Int)) = true := decide_eq_true c3
     clear c3
     by_cases c4 : 0 ≤ x3_1
     ·rw [if_pos c4] at H
      have c4b0 : decide (0 ≤ x3_1) = true := decide_eq_true c4
      clear c4
      replace H := zqn H
      obtain ⟨t136, A50, H⟩ := H
      replace H : (if t136 = 0 then (if ((rd_T91 l0 x3_1).f1) < 1 then (some false) else (if x3_1 > 0 then (if 0 ≤ (wrap64 (x3_1 - 1)) then (if (wrap64 (x3_1 - 1)) < (l0.length : Int) then (if ((Op.bytesLess (((rd_T91 l0 (wrap64 (x3_1 - 1))).f0).toList) (((rd_T91 l0 x3_1).f0).toList)) = true) then (copyholdref06_Right.l0 k1 l0 (wrap64 (x3_1 + 1))) else (some false)) else (none)) else (none)) else (copyholdref06_Right.l0 k1 l0 (wrap64 (x3_1 + 1))))) else (some false)) = some r := H
      have A5 := zqj A50
      clear A50
      by_cases c6 : t136 = 0
      ·rw [if_pos c6] at H
       have c6b0 : (t136 == 0) = true := beq_iff_eq.mpr c6
       have c6b1 : (t136 != 0) = false := bne_eq_false_iff_eq.mpr c6
       clear c6
       by_cases c7 : ((rd_T91 l0 x3_1).f1) < 1
       ·rw [if_pos c7] at H
        have c7b0 : decide (((rd_T91 l0 x3_1).f1) < 1) = true := decide_eq_true c7
        clear c7
        obtain rfl := Option.some.inj H
        have p135 : 0 ≤ (x3_1 : Int) := zqh zrs
        have q135 : x3_1 < (l0.length : Int) := zqh zrs
        obtain ⟨ad135, e135, hx135_0, hx135_1⟩ := at_T91 HR0.out x3_1 p135 q135
        cases e135
        replace p135 := eq_true p135
        replace q135 := eq_true q135
        go_wp2_with (first | (go_at_call 69; (with_reducible refine (copyholdref06_Check.calls k1 ((rd_T91 l0 x3_1).f0) t136 _ A5.out).mono ?_); rintro e w' ⟨rfl, ⟨nd, rfl⟩⟩; (try first | exact ⟨rfl, _, World.drewN_drewN _ _ _⟩ | exact ⟨rfl, _, Eq.trans (World.drewN_drewN _ _ _) (congrArg (World.drewN _) (Nat.add_assoc _ _ _))⟩); have p137 : 0 ≤ (x3_1 : Int) := zqh zrs; have q137 : x3_1 < (l0.length : Int) := zqh zrs; obtain ⟨ad137, e137, hx137_0, hx137_1⟩ := at_T91 HR0.out x3_1 p137 q137; obtain rfl : ad135 = ad137 := (by injection e137); replace p137 := eq_true p137; replace q137 := eq_true q137))
        repeat (go_quiet (first | (go_at_call 69; (with_reducible refine (copyholdref06_Check.calls k1 ((rd_T91 l0 x3_1).f0) t136 _ A5.out).mono ?_); rintro e w' ⟨rfl, ⟨nd, rfl⟩⟩; (try first | exact ⟨rfl, _, World.drewN_drewN _ _ _⟩ | exact ⟨rfl, _, Eq.trans (World.drewN_drewN _ _ _) (congrArg (World.drewN _) (Nat.add_assoc _ _ _))⟩); have p137 : 0 ≤ (x3_1 : Int) := zqh zrs; have q137 : x3_1 < (l0.length : Int) := zqh zrs; obtain ⟨ad137, e137, hx137_0, hx137_1⟩ := at_T91 HR0.out x3_1 p137 q137; obtain rfl : ad135 = ad137 := (by injection e137); replace p137 := eq_true p137; replace q137 := eq_true q137)); try go_wp2_with (first | (go_at_call 69; (with_reducible refine (copyholdref06_Check.calls k1 ((rd_T91 l0 x3_1).f0) t136 _ A5.out).mono ?_); rintro e w' ⟨rfl, ⟨nd, rfl⟩⟩; (try first | exact ⟨rfl, _, World.drewN_drewN _ _ _⟩ | exact ⟨rfl, _, Eq.trans (World.drewN_drewN _ _ _) (congrArg (World.drewN _) (Nat.add_assoc _ _ _))⟩); have p137 : 0 ≤ (x3_1 : Int) := zqh zrs; have q137 : x3_1 < (l0.length : Int) := zqh zrs; obtain ⟨ad137, e137, hx137_0, hx137_1⟩ := at_T91 HR0.out x3_1 p137 q137; obtain rfl : ad135 = ad137 := (by injection e137); replace p137 := eq_true p137; replace q137 := eq_true q137)))
        go_ret
        exact ⟨by first | rfl | (simp; done) | (simp [*]; done), by repeat (first | exact Drawn0.refl _ | apply Drawn0.step)⟩
       ·rw [if_neg c7] at H
        have c7b0 : decide (((rd_T91 l0 x3_1).f1) < 1) = false := decide_eq_false c7
        clear c7
        by_cases c8 : x3_1 > 0
        ·rw [if_pos c8] at H
         have c8b0 : decide (0 < x3_1) = true := decide_eq_true c8
         clear c8
         obtain ⟨ji9, hji9⟩ : ∃ j_ : Int, (wrap64 (x3_1 - 1)) = j_ := ⟨_, rfl⟩
         replace H : (if 0 ≤ (ji9) then (if (ji9) < (l0.length : Int) then (if ((Op.bytesLess (((rd_T91 l0 (ji9)).f0).toList) (((rd_T91 l0 x3_1).f0).toList)) = true) then (copyholdref06_Right.l0 k1 l0 (wrap64 (x3_1 + 1))) else (some false)) else (none)) else (none)) = some r := by first | (rw [hji9] at H; exact H) | (simp only [hji9] at H ⊢; exact H)
         (try rw [hji9] at A5)
         have hji9w : (IntKind.i64.wrap (x3_1 - 1)) = ji9 := (i64_w _).trans hji9
         by_cases c10 : 0 ≤ (ji9)
         ·rw [if_pos c10] at H
          have c10b0 : decide (0 ≤ (ji9)) = true := decide_eq_true c10
          clear c10
          by_cases c11 : (ji9) < (l0.length : Int)
          ·rw [if_pos c11] at H
           have c11b0 : decide ((ji9) < (l0.length : Int)) = true := decide_eq_true c11
           clear c11
           by_cases c12 : ((Op.bytesLess (((rd_T91 l0 (ji9)).f0).toList) (((rd_T91 l0 x3_1).f0).toList)) = true)
           ·rw [if_pos c12] at H
            have c12b0 : (Op.bytesLess (((rd_T91 l0 (ji9)).f0).toList) (((rd_T91 l0 x3_1).f0).toList)) = true := c12
            clear c12
            have H' := zqj H
            clear H
            have p135 : 0 ≤ (x3_1 : Int) := zqh zrs
            have q135 : x3_1 < (l0.length : Int) := zqh zrs
            obtain ⟨ad135, e135, hx135_0, hx135_1⟩ := at_T91 HR0.out x3_1 p135 q135
            cases e135
            replace p135 := eq_true p135
            replace q135 := eq_true q135
            go_wp2_with (first | (go_at_call 69; (with_reducible refine (copyholdref06_Check.calls k1 ((rd_T91 l0 x3_1).f0) t136 _ A5.out).mono ?_); rintro e w' ⟨rfl, ⟨nd, rfl⟩⟩; (try first | exact ⟨rfl, _, World.drewN_drewN _ _ _⟩ | exact ⟨rfl, _, Eq.trans (World.drewN_drewN _ _ _) (congrArg (World.drewN _) (Nat.add_assoc _ _ _))⟩); have p137 : 0 ≤ (x3_1 : Int) := zqh zrs; have q137 : x3_1 < (l0.length : Int) := zqh zrs; obtain ⟨ad137, e137, hx137_0, hx137_1⟩ := at_T91 HR0.out x3_1 p137 q137; obtain rfl : ad135 = ad137 := (by injection e137); replace p137 := eq_true p137; replace q137 := eq_true q137; have p138 : 0 ≤ ((ji9) : Int) := zqh zrs; have q138 : (ji9) < (l0.length : Int) := zqh zrs; obtain ⟨ad138, e138, hx138_0, hx138_1⟩ := at_T91 HR0.out (ji9) p138 q138; obtain rfl : ad135 = ad138 := (by injection e138); replace p138 := eq_true p138; replace q138 := eq_true q138; have p139 : 0 ≤ (x3_1 : Int) := zqh zrs; have q139 : x3_1 < (l0.length : Int) := zqh zrs; obtain ⟨ad139, e139, hx139_0, hx139_1⟩ := at_T91 HR0.out x3_1 p139 q139; obtain rfl : ad135 = ad139 := (by injection e139); replace p139 := eq_true p139; replace q139 := eq_true q139))
            repeat (go_quiet (first | (go_at_call 69; (with_reducible refine (copyholdref06_Check.calls k1 ((rd_T91 l0 x3_1).f0) t136 _ A5.out).mono ?_); rintro e w' ⟨rfl, ⟨nd, rfl⟩⟩; (try first | exact ⟨rfl, _, World.drewN_drewN _ _ _⟩ | exact ⟨rfl, _, Eq.trans (World.drewN_drewN _ _ _) (congrArg (World.drewN _) (Nat.add_assoc _ _ _))⟩); have p137 : 0 ≤ (x3_1 : Int) := zqh zrs; have q137 : x3_1 < (l0.length : Int) := zqh zrs; obtain ⟨ad137, e137, hx137_0, hx137_1⟩ := at_T91 HR0.out x3_1 p137 q137; obtain rfl : ad135 = ad137 := (by injection e137); replace p137 := eq_true p137; replace q137 := eq_true q137; have p138 : 0 ≤ ((ji9) : Int) := zqh zrs; have q138 : (ji9) < (l0.length : Int) := zqh zrs; obtain ⟨ad138, e138, hx138_0, hx138_1⟩ := at_T91 HR0.out (ji9) p138 q138; obtain rfl : ad135 = ad138 := (by injection e138); replace p138 := eq_true p138; replace q138 := eq_true q138; have p139 : 0 ≤ (x3_1 : Int) := zqh zrs; have q139 : x3_1 < (l0.length : Int) := zqh zrs; obtain ⟨ad139, e139, hx139_0, hx139_1⟩ := at_T91 HR0.out x3_1 p139 q139; obtain rfl : ad135 = ad139 := (by injection e139); replace p139 := eq_true p139; replace q139 := eq_true q139)); try go_wp2_with (first | (go_at_call 69; (with_reducible refine (copyholdref06_Check.calls k1 ((rd_T91 l0 x3_1).f0) t136 _ A5.out).mono ?_); rintro e w' ⟨rfl, ⟨nd, rfl⟩⟩; (try first | exact ⟨rfl, _, World.drewN_drewN _ _ _⟩ | exact ⟨rfl, _, Eq.trans (World.drewN_drewN _ _ _) (congrArg (World.drewN _) (Nat.add_assoc _ _ _))⟩); have p137 : 0 ≤ (x3_1 : Int) := zqh zrs; have q137 : x3_1 < (l0.length : Int) := zqh zrs; obtain ⟨ad137, e137, hx137_0, hx137_1⟩ := at_T91 HR0.out x3_1 p137 q137; obtain rfl : ad135 = ad137 := (by injection e137); replace p137 := eq_true p137; replace q137 := eq_true q137; have p138 : 0 ≤ ((ji9) : Int) := zqh zrs; have q138 : (ji9) < (l0.length : Int) := zqh zrs; obtain ⟨ad138, e138, hx138_0, hx138_1⟩ := at_T91 HR0.out (ji9) p138 q138; obtain rfl : ad135 = ad138 := (by injection e138); replace p138 := eq_true p138; replace q138 := eq_true q138; have p139 : 0 ≤ (x3_1 : Int) := zqh zrs; have q139 : x3_1 < (l0.length : Int) := zqh zrs; obtain ⟨ad139, e139, hx139_0, hx139_1⟩ := at_T91 HR0.out x3_1 p139 q139; obtain rfl : ad135 = ad139 := (by injection e139); replace p139 := eq_true p139; replace q139 := eq_true q139)))
            go_roundg k1
            case measure => have := HK1.out; omega
            case rel => exact ⟨(wrap64 (x3_1 + 1)), zrt, H', ⟨by have := HK1.out; omega⟩, by repeat (first | exact Drawn0.refl _ | apply Drawn0.step)⟩
           ·rw [if_neg c12] at H
            have c12b0 : (Op.bytesLess (((rd_T91 l0 (ji9)).f0).toList) (((rd_T91 l0 x3_1).f0).toList)) = false := by simpa using c12
            clear c12
            obtain rfl := Option.some.inj H
            have p135 : 0 ≤ (x3_1 : Int) := zqh zrs
            have q135 : x3_1 < (l0.length : Int) := zqh zrs
            obtain ⟨ad135, e135, hx135_0, hx135_1⟩ := at_T91 HR0.out x3_1 p135 q135
            cases e135
            replace p135 := eq_true p135
            replace q135 := eq_true q135
            go_wp2_with (first | (go_at_call 69; (with_reducible refine (copyholdref06_Check.calls k1 ((rd_T91 l0 x3_1).f0) t136 _ A5.out).mono ?_); rintro e w' ⟨rfl, ⟨nd, rfl⟩⟩; (try first | exact ⟨rfl, _, World.drewN_drewN _ _ _⟩ | exact ⟨rfl, _, Eq.trans (World.drewN_drewN _ _ _) (congrArg (World.drewN _) (Nat.add_assoc _ _ _))⟩); have p137 : 0 ≤ (x3_1 : Int) := zqh zrs; have q137 : x3_1 < (l0.length : Int) := zqh zrs; obtain ⟨ad137, e137, hx137_0, hx137_1⟩ := at_T91 HR0.out x3_1 p137 q137; obtain rfl : ad135 = ad137 := (by injection e137); replace p137 := eq_true p137; replace q137 := eq_true q137; have p138 : 0 ≤ ((ji9) : Int) := zqh zrs; have q138 : (ji9) < (l0.length : Int) := zqh zrs; obtain ⟨ad138, e138, hx138_0, hx138_1⟩ := at_T91 HR0.out (ji9) p138 q138; obtain rfl : ad135 = ad138 := (by injection e138); replace p138 := eq_true p138; replace q138 := eq_true q138; have p139 : 0 ≤ (x3_1 : Int) := zqh zrs; have q139 : x3_1 < (l0.length : Int) := zqh zrs; obtain ⟨ad139, e139, hx139_0, hx139_1⟩ := at_T91 HR0.out x3_1 p139 q139; obtain rfl : ad135 = ad139 := (by injection e139); replace p139 := eq_true p139; replace q139 := eq_true q139))
            repeat (go_quiet (first | (go_at_call 69; (with_reducible refine (copyholdref06_Check.calls k1 ((rd_T91 l0 x3_1).f0) t136 _ A5.out).mono ?_); rintro e w' ⟨rfl, ⟨nd, rfl⟩⟩; (try first | exact ⟨rfl, _, World.drewN_drewN _ _ _⟩ | exact ⟨rfl, _, Eq.trans (World.drewN_drewN _ _ _) (congrArg (World.drewN _) (Nat.add_assoc _ _ _))⟩); have p137 : 0 ≤ (x3_1 : Int) := zqh zrs; have q137 : x3_1 < (l0.length : Int) := zqh zrs; obtain ⟨ad137, e137, hx137_0, hx137_1⟩ := at_T91 HR0.out x3_1 p137 q137; obtain rfl : ad135 = ad137 := (by injection e137); replace p137 := eq_true p137; replace q137 := eq_true q137; have p138 : 0 ≤ ((ji9) : Int) := zqh zrs; have q138 : (ji9) < (l0.length : Int) := zqh zrs; obtain ⟨ad138, e138, hx138_0, hx138_1⟩ := at_T91 HR0.out (ji9) p138 q138; obtain rfl : ad135 = ad138 := (by injection e138); replace p138 := eq_true p138; replace q138 := eq_true q138; have p139 : 0 ≤ (x3_1 : Int) := zqh zrs; have q139 : x3_1 < (l0.length : Int) := zqh zrs; obtain ⟨ad139, e139, hx139_0, hx139_1⟩ := at_T91 HR0.out x3_1 p139 q139; obtain rfl : ad135 = ad139 := (by injection e139); replace p139 := eq_true p139; replace q139 := eq_true q139)); try go_wp2_with (first | (go_at_call 69; (with_reducible refine (copyholdref06_Check.calls k1 ((rd_T91 l0 x3_1).f0) t136 _ A5.out).mono ?_); rintro e w' ⟨rfl, ⟨nd, rfl⟩⟩; (try first | exact ⟨rfl, _, World.drewN_drewN _ _ _⟩ | exact ⟨rfl, _, Eq.trans (World.drewN_drewN _ _ _) (congrArg (World.drewN _) (Nat.add_assoc _ _ _))⟩); have p137 : 0 ≤ (x3_1 : Int) := zqh zrs; have q137 : x3_1 < (l0.length : Int) := zqh zrs; obtain ⟨ad137, e137, hx137_0, hx137_1⟩ := at_T91 HR0.out x3_1 p137 q137; obtain rfl : ad135 = ad137 := (by injection e137); replace p137 := eq_true p137; replace q137 := eq_true q137; have p138 : 0 ≤ ((ji9) : Int) := zqh zrs; have q138 : (ji9) < (l0.length : Int) := zqh zrs; obtain ⟨ad138, e138, hx138_0, hx138_1⟩ := at_T91 HR0.out (ji9) p138 q138; obtain rfl : ad135 = ad138 := (by injection e138); replace p138 := eq_true p138; replace q138 := eq_true q138; have p139 : 0 ≤ (x3_1 : Int) := zqh zrs; have q139 : x3_1 < (l0.length : Int) := zqh zrs; obtain ⟨ad139, e139, hx139_0, hx139_1⟩ := at_T91 HR0.out x3_1 p139 q139; obtain rfl : ad135 = ad139 := (by injection e139); replace p139 := eq_true p139; replace q139 := eq_true q139)))
            go_ret
            exact ⟨by first | rfl | (simp; done) | (simp only [← hji9] <;> (first | rfl | simp)) | (simp [*]; done), by repeat (first | exact Drawn0.refl _ | apply Drawn0.step)⟩
          ·rw [if_neg c11] at H
           exact absurd H (by simp)
         ·rw [if_neg c10] at H
          exact absurd H (by simp)
        ·rw [if_neg c8] at H
         have c8b0 : decide (0 < x3_1) = false := decide_eq_false c8
         clear c8
         have H' := zqj H
         clear H
         have p135 : 0 ≤ (x3_1 : Int) := zqh zrs
         have q135 : x3_1 < (l0.length : Int) := zqh zrs
         obtain ⟨ad135, e135, hx135_0, hx135_1⟩ := at_T91 HR0.out x3_1 p135 q135
         cases e135
         replace p135 := eq_true p135
         replace q135 := eq_true q135
         go_wp2_with (first | (go_at_call 69; (with_reducible refine (copyholdref06_Check.calls k1 ((rd_T91 l0 x3_1).f0) t136 _ A5.out).mono ?_); rintro e w' ⟨rfl, ⟨nd, rfl⟩⟩; (try first | exact ⟨rfl, _, World.drewN_drewN _ _ _⟩ | exact ⟨rfl, _, Eq.trans (World.drewN_drewN _ _ _) (congrArg (World.drewN _) (Nat.add_assoc _ _ _))⟩); have p137 : 0 ≤ (x3_1 : Int) := zqh zrs; have q137 : x3_1 < (l0.length : Int) := zqh zrs; obtain ⟨ad137, e137, hx137_0, hx137_1⟩ := at_T91 HR0.out x3_1 p137 q137; obtain rfl : ad135 = ad137 := (by injection e137); replace p137 := eq_true p137; replace q137 := eq_true q137))
         repeat (go_quiet (first | (go_at_call 69; (with_reducible refine (copyholdref06_Check.calls k1 ((rd_T91 l0 x3_1).f0) t136 _ A5.out).mono ?_); rintro e w' ⟨rfl, ⟨nd, rfl⟩⟩; (try first | exact ⟨rfl, _, World.drewN_drewN _ _ _⟩ | exact ⟨rfl, _, Eq.trans (World.drewN_drewN _ _ _) (congrArg (World.drewN _) (Nat.add_assoc _ _ _))⟩); have p137 : 0 ≤ (x3_1 : Int) := zqh zrs; have q137 : x3_1 < (l0.length : Int) := zqh zrs; obtain ⟨ad137, e137, hx137_0, hx137_1⟩ := at_T91 HR0.out x3_1 p137 q137; obtain rfl : ad135 = ad137 := (by injection e137); replace p137 := eq_true p137; replace q137 := eq_true q137)); try go_wp2_with (first | (go_at_call 69; (with_reducible refine (copyholdref06_Check.calls k1 ((rd_T91 l0 x3_1).f0) t136 _ A5.out).mono ?_); rintro e w' ⟨rfl, ⟨nd, rfl⟩⟩; (try first | exact ⟨rfl, _, World.drewN_drewN _ _ _⟩ | exact ⟨rfl, _, Eq.trans (World.drewN_drewN _ _ _) (congrArg (World.drewN _) (Nat.add_assoc _ _ _))⟩); have p137 : 0 ≤ (x3_1 : Int) := zqh zrs; have q137 : x3_1 < (l0.length : Int) := zqh zrs; obtain ⟨ad137, e137, hx137_0, hx137_1⟩ := at_T91 HR0.out x3_1 p137 q137; obtain rfl : ad135 = ad137 := (by injection e137); replace p137 := eq_true p137; replace q137 := eq_true q137)))
         go_roundg k1
         case measure => have := HK1.out; omega
         case rel => exact ⟨(wrap64 (x3_1 + 1)), zrt, H', ⟨by have := HK1.out; omega⟩, by repeat (first | exact Drawn0.refl _ | apply Drawn0.step)⟩
      ·rw [if_neg c6] at H
       have c6b0 : (t136 == 0) = false := beq_eq_false_iff_ne.mpr c6
       have c6b1 : (t136 != 0) = true := bne_iff_ne.mpr c6
       obtain rfl := Option.some.inj H
       have p135 : 0 ≤ (x3_1 : Int) := zqh zrs
       have q135 : x3_1 < (l0.length : Int) := zqh zrs
       obtain ⟨ad135, e135, hx135_0, hx135_1⟩ := at_T91 HR0.out x3_1 p135 q135
       cases e135
       replace p135 := eq_true p135
       replace q135 := eq_true q135
       go_wp2_with (first | (go_at_call 69; (with_reducible refine (copyholdref06_Check.calls k1 ((rd_T91 l0 x3_1).f0) t136 _ A5.out).mono ?_); rintro e w' ⟨rfl, ⟨nd, rfl⟩⟩; (try first | exact ⟨rfl, _, World.drewN_drewN _ _ _⟩ | exact ⟨rfl, _, Eq.trans (World.drewN_drewN _ _ _) (congrArg (World.drewN _) (Nat.add_assoc _ _ _))⟩)))
       repeat (go_quiet (first | (go_at_call 69; (with_reducible refine (copyholdref06_Check.calls k1 ((rd_T91 l0 x3_1).f0) t136 _ A5.out).mono ?_); rintro e w' ⟨rfl, ⟨nd, rfl⟩⟩; (try first | exact ⟨rfl, _, World.drewN_drewN _ _ _⟩ | exact ⟨rfl, _, Eq.trans (World.drewN_drewN _ _ _) (congrArg (World.drewN _) (Nat.add_assoc _ _ _))⟩))); try go_wp2_with (first | (go_at_call 69; (with_reducible refine (copyholdref06_Check.calls k1 ((rd_T91 l0 x3_1).f0) t136 _ A5.out).mono ?_); rintro e w' ⟨rfl, ⟨nd, rfl⟩⟩; (try first | exact ⟨rfl, _, World.drewN_drewN _ _ _⟩ | exact ⟨rfl, _, Eq.trans (World.drewN_drewN _ _ _) (congrArg (World.drewN _) (Nat.add_assoc _ _ _))⟩))))
       go_ret
       exact ⟨by first | rfl | (simp; done) | (simp [*]; done), by repeat (first | exact Drawn0.refl _ | apply Drawn0.step)⟩
     ·rw [if_neg c4] at H
      exact absurd H (by simp)
    ·rw [if_neg c3] at H
     have c3b0 : decide (x3_1 < (l0.length : Int)) = false := decide_eq_false c3
     clear c3
     obtain rfl := Option.some.inj H
     go_wp2
     repeat (go_quiet (fail); try go_wp2)
     go_ret
     exact ⟨by first | rfl | (simp; done) | (simp [*]; done), by repeat (first | exact Drawn0.refl _ | apply Drawn0.step)⟩
end Go.Proofs.Ytdkgkiemndlneaa.X
end

section
namespace Go.Proofs.Ytdkgkiemndlneaa.X
open Go.RowKit Go.Proofs.YtdkgkiemndlneaaW.PrintWords Go.Proofs.YtdkgkiemndlneaaW.PrintLast Go.Proofs.YtdkgkiemndlneaaW.PrintMore
open Go.Proofs.Ytdkgkiemndlneaa.Q
attribute [local go_sem] max2_int min2_int max_two min_two max_three min_three max_four min_four   -- for this text's walks alone
attribute [local go_sem high] Go.Proofs.Ytdkgkiemndlneaa.px_xor_u8 Go.Proofs.Ytdkgkiemndlneaa.px_xor_u16 Go.Proofs.Ytdkgkiemndlneaa.px_xor_u32 Go.Proofs.Ytdkgkiemndlneaa.px_xor_u64
attribute [local go_sem high] eqA91
def copyholdref07_Right.f (k : Nat) (a0_0 : Int) (a0_1 : Int) (a0_2 : Int) (a0_3 : ByteArray) (l0_4 : List (S91)) : Option (Bool) := if a0_0 < 1 then (some false) else (if a0_1 < 1 then (some false) else (if a0_1 > 3 then (some false) else (if a0_2 < 0 then (some false) else (if a0_2 > 64 then (some false) else (if (a0_3.size : Int) > 4096 then (some false) else ((copyholdref06_Right.f k l0_4).bind fun t141 => (if t141 = true then (if a0_1 = 2 then (if a0_3.toList = ([] : List UInt8) then (some true) else (some false)) else (some ((l0_4.length : Int) == 0))) else (some false))))))))
theorem copyholdref07_Right.mono : ∀ a0 a1 a2 a3 a4 k, LeO (copyholdref07_Right.f k a0 a1 a2 a3 a4) (copyholdref07_Right.f (k + 1) a0 a1 a2 a3 a4) := by
 intro a0 a1 a2 a3 a4 k
 unfold copyholdref07_Right.f
 repeat' first
   | (with_reducible exact copyholdref06_Right.mono _ _)
   | (with_reducible exact LeO.refl _)
   | (with_reducible exact LeO.none _)
   | (with_reducible refine LeO.ite ?_ ?_)
   | (with_reducible refine LeO.bind ?_ (fun _ => ?_))
   | exact copyholdref06_Right.mono _ _
   | exact LeO.none _
   | refine LeO.ite ?_ ?_
   | refine LeO.bind ?_ (fun _ => ?_)
set_option maxHeartbeats 8000000 in
set_option maxRecDepth 100000 in
theorem copyholdref07_Right.calls (k : Nat) (a0_0 : Int) (a0_1 : Int) (a0_2 : Int) (a0_3 : ByteArray) (A0_4 : Option Addr) (c0_4 : Nat) (l0_4 : List (S91)) (r : Bool) (w : World) (hr0_4 : Kd.C k91 w A0_4 l0_4.length l0_4) (hc0_4 : l0_4.length ≤ c0_4) (h : copyholdref07_Right.f k a0_0 a0_1 a0_2 a0_3 l0_4 = some r) :
  Calls Try.prog 51 #[.agg #[.int .i64 a0_0, .int .i64 a0_1, .int .i64 a0_2, .string a0_3, .slice A0_4 l0_4.length c0_4]] w fun e w' => e = .returned (.bool r) ∧ Below w.heap.size w w' := by
 have hu38 := Try.underlying38
 have HR0_4 := zqj hr0_4
 have HC0_4 := zqj hc0_4
 clear hr0_4 hc0_4
 have HB := zqj (Below.refl w.heap.size w)
 have H : (if a0_0 < 1 then (some false) else (if a0_1 < 1 then (some false) else (if a0_1 > 3 then (some false) else (if a0_2 < 0 then (some false) else (if a0_2 > 64 then (some false) else (if (a0_3.size : Int) > 4096 then (some false) else ((copyholdref06_Right.f k l0_4).bind fun t141 => (if t141 = true then (if a0_1 = 2 then (if a0_3.toList = ([] : List UInt8) then (some true) else (some false)) else (some ((l0_4.length : Int) == 0))) else (some false))))))))) = some r := h
 clear h
 by_cases c2 : a0_0 < 1
 ·rw [if_pos c2] at H
  have c2b0 : decide (a0_0 < 1) = true := decide_eq_true c2
  clear c2
  obtain rfl := Option.some.inj H
  go_enter Try.func51, Try.ntmps51
  go_wp2_with (first | ((with_reducible refine gate_dst (N := 1) rfl ?_); (try (refine gate_guard (by rfl) ?_; dsimp only)); refine box_event ?hg (N := 1) ?hd (cs := #[.int .i64 a0_0, .int .i64 a0_1, .int .i64 a0_2, .string a0_3, .slice A0_4 l0_4.length c0_4]) (t := 38) ?hr ?_; (case hd => rfl); (case hg => rfl); (case hr => exact zrr); intro gb140 hg w3 hbox hb; have n0_ := zqj (below_step (zrd0 HB.out) hb); have n1_ := zqj (hbox); have n2_ : Aside0 (w.heap.size ≤ gb140) := ⟨by rw [hg]; exact below_size (zrd0 HB.out)⟩; have n3_ := n2_; clear HB; have HB := n0_; have BK140 := n1_; have GW140 := n2_; have GE140 := n3_; clear n0_ n1_ n2_ n3_; clear hb hbox hg; obtain ⟨hcz4_0, hcz4_1, hcz4_2, hcz4_3, hcz4_4⟩ := zc5 BK140.out; obtain ⟨hfz4_0, hfz4_1, hfz4_2, hfz4_3, hfz4_4⟩ := zf5 BK140.out))
  go_ret
  exact ⟨zru, by repeat (first | (with_reducible first | exact HB.out | apply zqg | apply zqe | apply zqf | refine zqd ?_ GE140.out) | exact HB.out)⟩
 ·rw [if_neg c2] at H
  have c2b0 : decide (a0_0 < 1) = false := decide_eq_false c2
  clear c2
  by_cases c5 : a0_1 < 1
  ·rw [if_pos c5] at H
   have c5b0 : decide (a0_1 < 1) = true := decide_eq_true c5
   clear c5
   obtain rfl := Option.some.inj H
   go_enter Try.func51, Try.ntmps51
   go_wp2_with (first | ((with_reducible refine gate_dst (N := 1) rfl ?_); (try (refine gate_guard (by rfl) ?_; dsimp only)); refine box_event ?hg (N := 1) ?hd (cs := #[.int .i64 a0_0, .int .i64 a0_1, .int .i64 a0_2, .string a0_3, .slice A0_4 l0_4.length c0_4]) (t := 38) ?hr ?_; (case hd => rfl); (case hg => rfl); (case hr => exact zrr); intro gb140 hg w6 hbox hb; have n0_ := zqj (below_step (zrd0 HB.out) hb); have n1_ := zqj (hbox); have n2_ : Aside0 (w.heap.size ≤ gb140) := ⟨by rw [hg]; exact below_size (zrd0 HB.out)⟩; have n3_ := n2_; clear HB; have HB := n0_; have BK140 := n1_; have GW140 := n2_; have GE140 := n3_; clear n0_ n1_ n2_ n3_; clear hb hbox hg; obtain ⟨hcz7_0, hcz7_1, hcz7_2, hcz7_3, hcz7_4⟩ := zc5 BK140.out; obtain ⟨hfz7_0, hfz7_1, hfz7_2, hfz7_3, hfz7_4⟩ := zf5 BK140.out))
   go_ret
   exact ⟨zru, by repeat (first | (with_reducible first | exact HB.out | apply zqg | apply zqe | apply zqf | refine zqd ?_ GE140.out) | exact HB.out)⟩
  ·rw [if_neg c5] at H
   have c5b0 : decide (a0_1 < 1) = false := decide_eq_false c5
   clear c5
   by_cases c8 : a0_1 > 3
   ·rw [if_pos c8] at H
    have c8b0 : decide (3 < a0_1) = true := decide_eq_true c8
    clear c8
    obtain rfl := Option.some.inj H
    go_enter Try.func51, Try.ntmps51
    go_wp2_with (first | ((with_reducible refine gate_dst (N := 1) rfl ?_); (try (refine gate_guard (by rfl) ?_; dsimp only)); refine box_event ?hg (N := 1) ?hd (cs := #[.int .i64 a0_0, .int .i64 a0_1, .int .i64 a0_2, .string a0_3, .slice A0_4 l0_4.length c0_4]) (t := 38) ?hr ?_; (case hd => rfl); (case hg => rfl); (case hr => exact zrr); intro gb140 hg w9 hbox hb; have n0_ := zqj (below_step (zrd0 HB.out) hb); have n1_ := zqj (hbox); have n2_ : Aside0 (w.heap.size ≤ gb140) := ⟨by rw [hg]; exact below_size (zrd0 HB.out)⟩; have n3_ := n2_; clear HB; have HB := n0_; have BK140 := n1_; have GW140 := n2_; have GE140 := n3_; clear n0_ n1_ n2_ n3_; clear hb hbox hg; obtain ⟨hcz10_0, hcz10_1, hcz10_2, hcz10_3, hcz10_4⟩ := zc5 BK140.out; obtain ⟨hfz10_0, hfz10_1, hfz10_2, hfz10_3, hfz10_4⟩ := zf5 BK140.out))
    go_ret
    exact ⟨zru, by repeat (first | (with_reducible first | exact HB.out | apply zqg | apply zqe | apply zqf | refine zqd ?_ GE140.out) | exact HB.out)⟩
   ·rw [if_neg c8] at H
    have c8b0 : decide (3 < a0_1) = false := decide_eq_false c8
    clear c8
    by_cases c11 : a0_2 < 0
    ·rw [if_pos c11] at H
     have c11b0 : decide (a0_2 < 0) = true := decide_eq_true c11
     clear c11
     obtain rfl := Option.some.inj H
     go_enter Try.func51, Try.ntmps51
     go_wp2_with (first | ((with_reducible refine gate_dst (N := 1) rfl ?_); (try (refine gate_guard (by rfl) ?_; dsimp only)); refine box_event ?hg (N := 1) ?hd (cs := #[.int .i64 a0_0, .int .i64 a0_1, .int .i64 a0_2, .string a0_3, .slice A0_4 l0_4.length c0_4]) (t := 38) ?hr ?_; (case hd => rfl); (case hg => rfl); (case hr => exact zrr); intro gb140 hg w12 hbox hb; have n0_ := zqj (below_step (zrd0 HB.out) hb); have n1_ := zqj (hbox); have n2_ : Aside0 (w.heap.size ≤ gb140) := ⟨by rw [hg]; exact below_size (zrd0 HB.out)⟩; have n3_ := n2_; clear HB; have HB := n0_; have BK140 := n1_; have GW140 := n2_; have GE140 := n3_; clear n0_ n1_ n2_ n3_; clear hb hbox hg; obtain ⟨hcz13_0, hcz13_1, hcz13_2, hcz13_3, hcz13_4⟩ := zc5 BK140.out; obtain ⟨hfz13_0, hfz13_1, hfz13_2, hfz13_3, hfz13_4⟩ := zf5 BK140.out))
     go_ret
     exact ⟨zru, by repeat (first | (with_reducible first | exact HB.out | apply zqg | apply zqe | apply zqf | refine zqd ?_ GE140.out) | exact HB.out)⟩
    ·rw [if_neg c11] at H
     have c11b0 : decide (a0_2 < 0) = false := decide_eq_false c11
     clear c11
     by_cases c14 : a0_2 > 64
     ·rw [if_pos c14] at H
      have c14b0 : decide (64 < a0_2) = true := decide_eq_true c14
      clear c14
      obtain rfl := Option.some.inj H
      go_enter Try.func51, Try.ntmps51
      go_wp2_with (first | ((with_reducible refine gate_dst (N := 1) rfl ?_); (try (refine gate_guard (by rfl) ?_; dsimp only)); refine box_event ?hg (N := 1) ?hd (cs := #[.int .i64 a0_0, .int .i64 a0_1, .int .i64 a0_2, .string a0_3, .slice A0_4 l0_4.length c0_4]) (t := 38) ?hr ?_; (case hd => rfl); (case hg => rfl); (case hr => exact zrr); intro gb140 hg w15 hbox hb; have n0_ := zqj (below_step (zrd0 HB.out) hb); have n1_ := zqj (hbox); have n2_ : Aside0 (w.heap.size ≤ gb140) := ⟨by rw [hg]; exact below_size (zrd0 HB.out)⟩; have n3_ := n2_; clear HB; have HB := n0_; have BK140 := n1_; have GW140 := n2_; have GE140 := n3_; clear n0_ n1_ n2_ n3_; clear hb hbox hg; obtain ⟨hcz16_0, hcz16_1, hcz16_2, hcz16_3, hcz16_4⟩ := zc5 BK140.out; obtain ⟨hfz16_0, hfz16_1, hfz16_2, hfz16_3, hfz16_4⟩ := zf5 BK140.out))
      go_ret
      exact ⟨zru, by repeat (first | (with_reducible first | exact HB.out | apply zqg | apply zqe | apply zqf | refine zqd ?_ GE140.out) | exact HB.out)⟩
     ·rw [if_neg c14] at H
      have c14b0 : decide (64 < a0_2) = false := decide_eq_false c14
      clear c14
      by_cases c17 : (a0_3.size : Int) > 4096
      ·rw [if_pos c17] at H
       have c17b0 : decide (4096 < (a0_3.size : Int)) = true := decide_eq_true c17
       have c17b1 : decide (4096 < a0_3.size) = true := decide_eq_true (by omega)
       clear c17
       obtain rfl := Option.some.inj H
       go_enter Try.func51, Try.ntmps51
       go_wp2_with (first | ((with_reducible refine gate_dst (N := 1) rfl ?_); (try (refine gate_guard (by rfl) ?_; dsimp only)); refine box_event ?hg (N := 1) ?hd (cs := #[.int .i64 a0_0, .int .i64 a0_1, .int .i64 a0_2, .string a0_3, .slice A0_4 l0_4.length c0_4]) (t := 38) ?hr ?_; (case hd => rfl); (case hg => rfl); (case hr => exact zrr); intro gb140 hg w18 hbox hb; have n0_ := zqj (below_step (zrd0 HB.out) hb); have n1_ := zqj (hbox); have n2_ : Aside0 (w.heap.size ≤ gb140) := ⟨by rw [hg]; exact below_size (zrd0 HB.out)⟩; have n3_ := n2_; clear HB; have HB := n0_; have BK140 := n1_; have GW140 := n2_; have GE140 := n3_; clear n0_ n1_ n2_ n3_; clear hb hbox hg; obtain ⟨hcz19_0, hcz19_1, hcz19_2, hcz19_3, hcz19_4⟩ := zc5 BK140.out; obtain ⟨hfz19_0, hfz19_1, hfz19_2, hfz19_3, hfz19_4⟩ := zf5 BK140.out))
       go_ret
       exact ⟨zru, by repeat (first | (with_reducible first | exact HB.out | apply zqg | apply zqe | apply zqf | refine zqd ?_ GE140.out) | exact HB.out)⟩
      ·rw [if_neg c17] at H
       have c17b0 : decide (4096 < (a0_3.size : Int)) = false := decide_eq_false c17
       have c17b1 : decide (4096 < a0_3.size) = false := decide_eq_false (by omega)
       clear c17
       replace H := zqn H
       obtain ⟨t141, A200, H⟩ := H
       replace H : (if t141 = true then (if a0_1 = 2 then (if a0_3.toList = ([] : List UInt8) then (some true) else (some false)) else (some ((l0_4.length : Int) == 0))) else (some false)) = some r := H
       have A20 := zqj A200
       clear A200
       by_cases c21 : t141 = true
       ·subst c21
        have H1 : (if a0_1 = 2 then (if a0_3.toList = ([] : List UInt8) then (some true) else (some false)) else (some ((l0_4.length : Int) == 0))) = some r := by rw [if_pos rfl] at H; exact H
        clear H
        have H := H1
        clear H1
        by_cases c22 : a0_1 = 2
        ·rw [if_pos c22] at H
         have c22b0 : (a0_1 == 2) = true := beq_iff_eq.mpr c22
         have c22b1 : (a0_1 != 2) = false := bne_eq_false_iff_eq.mpr c22
         clear c22
         by_cases c23 : a0_3.toList = ([] : List UInt8)
         ·rw [if_pos c23] at H
          have c23b0 : (a0_3.toList == ([] : List UInt8)) = true := beq_iff_eq.mpr c23
          have c23b1 : (a0_3.toList != ([] : List UInt8)) = false := bne_eq_false_iff_eq.mpr c23
          clear c23
          obtain rfl := Option.some.inj H
          go_enter Try.func51, Try.ntmps51
          go_wp2_with (first | ((with_reducible refine gate_dst (N := 1) rfl ?_); (try (refine gate_guard (by rfl) ?_; dsimp only)); refine box_event ?hg (N := 1) ?hd (cs := #[.int .i64 a0_0, .int .i64 a0_1, .int .i64 a0_2, .string a0_3, .slice A0_4 l0_4.length c0_4]) (t := 38) ?hr ?_; (case hd => rfl); (case hg => rfl); (case hr => exact zrr); intro gb140 hg w24 hbox hb; have n0_ := zqj (below_step (zrd0 HB.out) hb); have n1_ := zqj (hbox); have n2_ : Aside0 (w.heap.size ≤ gb140) := ⟨by rw [hg]; exact below_size (zrd0 HB.out)⟩; have n3_ := n2_; clear HB; have HB := n0_; have BK140 := n1_; have GW140 := n2_; have GE140 := n3_; clear n0_ n1_ n2_ n3_; clear hb hbox hg; obtain ⟨hcz25_0, hcz25_1, hcz25_2, hcz25_3, hcz25_4⟩ := zc5 BK140.out; obtain ⟨hfz25_0, hfz25_1, hfz25_2, hfz25_3, hfz25_4⟩ := zf5 BK140.out) | ((with_reducible refine gate_callee (f := 62) rfl ?_); refine goesL_ (some 35) rfl rfl Try.func62 (by kernel_rfl) rfl #[.slice A0_4 l0_4.length c0_4] rfl zra ?_; (with_reducible refine (copyholdref06_Right.calls k _ _ l0_4 true _ ?side1 ?side2 A20.out).mono ?_); (case side1 => exact zrc (Kd.C_below HR0_4.out HB.out)); (case side2 => exact HC0_4.out); rintro e w' ⟨rfl, ⟨nd, rfl⟩⟩; refine ⟨_, rfl, ?_⟩))
          go_ret
          exact ⟨zru, by repeat (first | (with_reducible first | exact HB.out | apply zqg | apply zqe | apply zqf | refine zqd ?_ GE140.out) | exact HB.out)⟩
         ·rw [if_neg c23] at H
          have c23b0 : (a0_3.toList == ([] : List UInt8)) = false := beq_eq_false_iff_ne.mpr c23
          have c23b1 : (a0_3.toList != ([] : List UInt8)) = true := bne_iff_ne.mpr c23
          obtain rfl := Option.some.inj H
          go_enter Try.func51, Try.ntmps51
          go_wp2_with (first | ((with_reducible refine gate_dst (N := 1) rfl ?_); (try (refine gate_guard (by rfl) ?_; dsimp only)); refine box_event ?hg (N := 1) ?hd (cs := #[.int .i64 a0_0, .int .i64 a0_1, .int .i64 a0_2, .string a0_3, .slice A0_4 l0_4.length c0_4]) (t := 38) ?hr ?_; (case hd => rfl); (case hg => rfl); (case hr => exact zrr); intro gb140 hg w26 hbox hb; have n0_ := zqj (below_step (zrd0 HB.out) hb); have n1_ := zqj (hbox); have n2_ : Aside0 (w.heap.size ≤ gb140) := ⟨by rw [hg]; exact below_size (zrd0 HB.out)⟩; have n3_ := n2_; clear HB; have HB := n0_; have BK140 := n1_; have GW140 := n2_; have GE140 := n3_; clear n0_ n1_ n2_ n3_; clear hb hbox hg; obtain ⟨hcz27_0, hcz27_1, hcz27_2, hcz27_3, hcz27_4⟩ := zc5 BK140.out; obtain ⟨hfz27_0, hfz27_1, hfz27_2, hfz27_3, hfz27_4⟩ := zf5 BK140.out) | ((with_reducible refine gate_callee (f := 62) rfl ?_); refine goesL_ (some 35) rfl rfl Try.func62 (by kernel_rfl) rfl #[.slice A0_4 l0_4.length c0_4] rfl zra ?_; (with_reducible refine (copyholdref06_Right.calls k _ _ l0_4 true _ ?side1 ?side2 A20.out).mono ?_); (case side1 => exact zrc (Kd.C_below HR0_4.out HB.out)); (case side2 => exact HC0_4.out); rintro e w' ⟨rfl, ⟨nd, rfl⟩⟩; refine ⟨_, rfl, ?_⟩))
          go_ret
          exact ⟨zru, by repeat (first | (with_reducible first | exact HB.out | apply zqg | apply zqe | apply zqf | refine zqd ?_ GE140.out) | exact HB.out)⟩
        ·rw [if_neg c22] at H
         have c22b0 : (a0_1 == 2) = false := beq_eq_false_iff_ne.mpr c22
         have c22b1 : (a0_1 != 2) = true := bne_iff_ne.mpr c22
         obtain rfl := Option.some.inj H
         go_enter Try.func51, Try.ntmps51
         go_wp2_with (first | ((with_reducible refine gate_dst (N := 1) rfl ?_); (try (refine gate_guard (by rfl) ?_; dsimp only)); refine box_event ?hg (N := 1) ?hd (cs := #[.int .i64 a0_0, .int .i64 a0_1, .int .i64 a0_2, .string a0_3, .slice A0_4 l0_4.length c0_4]) (t := 38) ?hr ?_; (case hd => rfl); (case hg => rfl); (case hr => exact zrr); intro gb140 hg w28 hbox hb; have n0_ := zqj (below_step (zrd0 HB.out) hb); have n1_ := zqj (hbox); have n2_ : Aside0 (w.heap.size ≤ gb140) := ⟨by rw [hg]; exact below_size (zrd0 HB.out)⟩; have n3_ := n2_; clear HB; have HB := n0_; have BK140 := n1_; have GW140 := n2_; have GE140 := n3_; clear n0_ n1_ n2_ n3_; clear hb hbox hg; obtain ⟨hcz29_0, hcz29_1, hcz29_2, hcz29_3, hcz29_4⟩ := zc5 BK140.out; obtain ⟨hfz29_0, hfz29_1, hfz29_2, hfz29_3, hfz29_4⟩ := zf5 BK140.out) | ((with_reducible refine gate_callee (f := 62) rfl ?_); refine goesL_ (some 35) rfl rfl Try.func62 (by kernel_rfl) rfl #[.slice A0_4 l0_4.length c0_4] rfl zra ?_; (with_reducible refine (copyholdref06_Right.calls k _ _ l0_4 true _ ?side1 ?side2 A20.out).mono ?_); (case side1 => exact zrc (Kd.C_below HR0_4.out HB.out)); (case side2 => exact HC0_4.out); rintro e w' ⟨rfl, ⟨nd, rfl⟩⟩; refine ⟨_, rfl, ?_⟩))
         go_ret
         exact ⟨zru, by repeat (first | (with_reducible first | exact HB.out | apply zqg | apply zqe | apply zqf | refine zqd ?_ GE140.out) | exact HB.out)⟩
       ·replace c21 := Bool.eq_false_iff.mpr c21
        subst c21
        have H1 : (some false) = some r := by rw [if_neg (show ¬ (false = true) by decide)] at H; exact H
        clear H
        have H := H1
        clear H1
        obtain rfl := Option.some.inj H
        go_enter Try.func51, Try.ntmps51
        go_wp2_with (first | ((with_reducible refine gate_dst (N := 1) rfl ?_); (try (refine gate_guard (by rfl) ?_; dsimp only)); refine box_event ?hg (N := 1) ?hd (cs := #[.int .i64 a0_0, .int .i64 a0_1, .int .i64 a0_2, .string a0_3, .slice A0_4 l0_4.length c0_4]) (t := 38) ?hr ?_; (case hd => rfl); (case hg => rfl); (case hr => exact zrr); intro gb140 hg w30 hbox hb; have n0_ := zqj (below_step (zrd0 HB.out) hb); have n1_ := zqj (hbox); have n2_ : Aside0 (w.heap.size ≤ gb140) := ⟨by rw [hg]; exact below_size (zrd0 HB.out)⟩; have n3_ := n2_; clear HB; have HB := n0_; have BK140 := n1_; have GW140 := n2_; have GE140 := n3_; clear n0_ n1_ n2_ n3_; clear hb hbox hg; obtain ⟨hcz31_0, hcz31_1, hcz31_2, hcz31_3, hcz31_4⟩ := zc5 BK140.out; obtain ⟨hfz31_0, hfz31_1, hfz31_2, hfz31_3, hfz31_4⟩ := zf5 BK140.out) | ((with_reducible refine gate_callee (f := 62) rfl ?_); refine goesL_ (some 35) rfl rfl Try.func62 (by kernel_rfl) rfl #[.slice A0_4 l0_4.length c0_4] rfl zra ?_; (with_reducible refine (copyholdref06_Right.calls k _ _ l0_4 false _ ?side1 ?side2 A20.out).mono ?_); (case side1 => exact zrc (Kd.C_below HR0_4.out HB.out)); (case side2 => exact HC0_4.out); rintro e w' ⟨rfl, ⟨nd, rfl⟩⟩; refine ⟨_, rfl, ?_⟩))
        go_ret
        exact ⟨zru, by repeat (first | (with_reducible first | exact HB.out | apply zqg | apply zqe | apply zqf | refine zqd ?_ GE140.out) | exact HB.out)⟩
def copyholdref06_Same.l0 : Nat → List (S91) → List (S91) → Int → Option (Bool)
 | 0, _, _, _ => none
 | k + 1, x0, x1, x5 => if x5 < (x0.length : Int) then (if 0 ≤ x5 then (if x5 < (x1.length : Int) then (if (!((((rd_T91 x0 x5).f0).toList) == (((rd_T91 x1 x5).f0).toList)) || (!(((rd_T91 x0 x5).f1) == ((rd_T91 x1 x5).f1)))) = true then (some false) else (copyholdref06_Same.l0 k x0 x1 (wrap64 (x5 + 1)))) else (none)) else (none)) else (some true)
def copyholdref06_Same.f (k : Nat) (l0 : List (S91)) (l1 : List (S91)) : Option (Bool) := if (l0.length : Int) = (l1.length : Int) then (copyholdref06_Same.l0 k l0 l1 0) else (some false)
theorem copyholdref06_Same.mono_l : ∀ k, (∀ y0 y1 y2, LeO (copyholdref06_Same.l0 k y0 y1 y2) (copyholdref06_Same.l0 (k + 1) y0 y1 y2))
 | 0 => fun _ _ _ r h => by simp [copyholdref06_Same.l0] at h
 | k + 1 => by
  have ih0 := copyholdref06_Same.mono_l k
  ·intro y0 y1 y2
   unfold copyholdref06_Same.l0
   repeat' first
   | (with_reducible exact ih0 _ _ _)
   | (with_reducible exact LeO.refl _)
   | (with_reducible exact LeO.none _)
   | (with_reducible refine LeO.ite ?_ ?_)
   | (with_reducible refine LeO.bind ?_ (fun _ => ?_))
   | exact ih0 _ _ _
   | exact LeO.none _
   | refine LeO.ite ?_ ?_
   | refine LeO.bind ?_ (fun _ => ?_)
theorem copyholdref06_Same.mono : ∀ a0 a1 k, LeO (copyholdref06_Same.f k a0 a1) (copyholdref06_Same.f (k + 1) a0 a1) := by
 intro a0 a1 k
 have ih0 := copyholdref06_Same.mono_l k
 unfold copyholdref06_Same.f
 repeat' first
   | (with_reducible exact ih0 _ _ _)
   | (with_reducible exact LeO.refl _)
   | (with_reducible exact LeO.none _)
   | (with_reducible refine LeO.ite ?_ ?_)
   | (with_reducible refine LeO.bind ?_ (fun _ => ?_))
   | exact ih0 _ _ _
   | exact LeO.none _
   | refine LeO.ite ?_ ?_
   | refine LeO.bind ?_ (fun _ => ?_)
set_option maxHeartbeats 8000000 in
set_option maxRecDepth 100000 in
theorem copyholdref06_Same.calls (k : Nat) (A0 : Option Addr) (c0 : Nat) (l0 : List (S91)) (A1 : Option Addr) (c1 : Nat) (l1 : List (S91)) (r : Bool) (w : World) (hr0 : Kd.C k91 w A0 l0.length l0) (hc0 : l0.length ≤ c0) (hr1 : Kd.C k91 w A1 l1.length l1) (hc1 : l1.length ≤ c1) (h : copyholdref06_Same.f k l0 l1 = some r) :
  Calls Try.prog 55 #[.slice A0 l0.length c0, .slice A1 l1.length c1] w fun e w' => e = .returned (.bool r) ∧ Drawn0 w w' := by
 have hu91 := Try.underlying91
 have HR0 := zqj hr0
 have HC0 := zqj hc0
 clear hr0 hc0
 have HR1 := zqj hr1
 have HC1 := zqj hc1
 clear hr1 hc1
 have H : (if (l0.length : Int) = (l1.length : Int) then (copyholdref06_Same.l0 k l0 l1 0) else (some false)) = some r := h
 clear h
 by_cases c3 : (l0.length : Int) = (l1.length : Int)
 ·rw [if_pos c3] at H
  have c3b0 : ((l0.length : Int) == (l1.length : Int)) = true := beq_iff_eq.mpr c3
  have c3b1 : ((l0.length : Int) != (l1.length : Int)) = false := bne_eq_false_iff_eq.mpr c3
  have c3b2 : (l0.length == l1.length) = true := by first | simpa using c3 | (simp at c3 ⊢; omega)
  clear c3
  have H' := zqj H
  clear H
  go_enter Try.func55, Try.ntmps55
  go_wp2
  repeat (go_quiet (fail); try go_wp2)
  go_loopg [5] k (fun kq v5 w' => ∃ (x5_1 : Int), v5 = .int .i64 x5_1 ∧ Aside0 (copyholdref06_Same.l0 kq l0 l1 x5_1 = some r) ∧ Aside0 (kq ≤ k) ∧ Drawn0 w w')
  case atStart => exact ⟨(0), zrt, H', ⟨Nat.le_refl _⟩, by repeat (first | exact Drawn0.refl _ | apply Drawn0.step)⟩
  case round =>
   clear H'
   ((try clear c1); (try clear p2); (try clear c3); (try clear c3b0); (try clear c3b1); (try clear c3b2))
   obtain ⟨x5_1, rfl, HA, HK1, ⟨m1, rfl⟩⟩ := hrel
   cases gk with
   | zero => exact absurd HA.out (by simp [copyholdref06_Same.l0])
   | succ k1 =>
    (have H := HA.out; clear HA)
    simp only [copyholdref06_Same.l0] at H
    by_cases c4 : x5_1 < (l0.length : Int)
    ·rw [if_pos c4] at H
     have c4b0 : decide (x5_1 < (l0.length : Int)) = true := decide_eq_true c4
     clear c4
     by_cases c5 : 0 ≤ x5_1
     ·rw [if_pos c5] at H
      have c5b0 : decide (0 ≤ x5_1) = true := decide_eq_true c5
      clear c5
      by_cases c6 : x5_1 < (l1.length : Int)
      ·rw [if_pos c6] at H
       have c6b0 : decide (x5_1 < (l1.length : Int)) = true := decide_eq_true c6
       clear c6
       by_cases c7 : (!((((rd_T91 l0 x5_1).f0).toList) == (((rd_T91 l1 x5_1).f0).toList)) || (!(((rd_T91 l0 x5_1).f1) == ((rd_T91 l1 x5_1).f1)))) = true
       ·rw [if_pos c7] at H
        have c7b0 : (!((((rd_T91 l0 x5_1).f0).toList) == (((rd_T91 l1 x5_1).f0).toList)) || (!(((rd_T91 l0 x5_1).f1) == ((rd_T91 l1 x5_1).f1)))) = true := c7
        clear c7
        obtain rfl := Option.some.inj H
        have p142 : 0 ≤ (x5_1 : Int) := zqh zrs
        have q142 : x5_1 < (l0.length : Int) := zqh zrs
        obtain ⟨ad142, e142, hx142_0, hx142_1⟩ := at_T91 HR0.out x5_1 p142 q142
        cases e142
        replace p142 := eq_true p142
        replace q142 := eq_true q142
        have p143 : 0 ≤ (x5_1 : Int) := zqh zrs
        have q143 : x5_1 < (l1.length : Int) := zqh zrs
        obtain ⟨ad143, e143, hx143_0, hx143_1⟩ := at_T91 HR1.out x5_1 p143 q143
        cases e143
        replace p143 := eq_true p143
        replace q143 := eq_true q143
        go_wp2
        repeat (go_quiet (fail); try go_wp2)
        go_ret
        exact ⟨by first | rfl | (simp; done) | (simp [*]; done), by repeat (first | exact Drawn0.refl _ | apply Drawn0.step)⟩
       ·rw [if_neg c7] at H
        have c7b0 : (!((((rd_T91 l0 x5_1).f0).toList) == (((rd_T91 l1 x5_1).f0).toList)) || (!(((rd_T91 l0 x5_1).f1) == ((rd_T91 l1 x5_1).f1)))) = false := by simpa using c7
        clear c7
        have H' := zqj H
        clear H
        have p142 : 0 ≤ (x5_1 : Int) := zqh zrs
        have q142 : x5_1 < (l0.length : Int) := zqh zrs
        obtain ⟨ad142, e142, hx142_0, hx142_1⟩ := at_T91 HR0.out x5_1 p142 q142
        cases e142
        replace p142 := eq_true p142
        replace q142 := eq_true q142
        have p143 : 0 ≤ (x5_1 : Int) := zqh zrs
        have q143 : x5_1 < (l1.length : Int) := zqh zrs
        obtain ⟨ad143, e143, hx143_0, hx143_1⟩ := at_T91 HR1.out x5_1 p143 q143
        cases e143
        replace p143 := eq_true p143
        replace q143 := eq_true q143
        go_wp2
        repeat (go_quiet (fail); try go_wp2)
        go_roundg k1
        case measure => have := HK1.out; omega
        case rel => exact ⟨(wrap64 (x5_1 + 1)), zrt, H', ⟨by have := HK1.out; omega⟩, by repeat (first | exact Drawn0.refl _ | apply Drawn0.step)⟩
      ·rw [if_neg c6] at H
       exact absurd H (by simp)
     ·rw [if_neg c5] at H
      exact absurd H (by simp)
    ·rw [if_neg c4] at H
     have c4b0 : decide (x5_1 < (l0.length : Int)) = false := decide_eq_false c4
     clear c4
     obtain rfl := Option.some.inj H
     go_wp2
     repeat (go_quiet (fail); try go_wp2)
     go_ret
     exact ⟨by first | rfl | (simp; done) | (simp [*]; done), by repeat (first | exact Drawn0.refl _ | apply Drawn0.step)⟩
 ·rw [if_neg c3] at H
  have c3b0 : ((l0.length : Int) == (l1.length : Int)) = false := beq_eq_false_iff_ne.mpr c3
  have c3b1 : ((l0.length : Int) != (l1.length : Int)) = true := bne_iff_ne.mpr c3
  have c3b2 : (l0.length == l1.length) = false := by first | simpa using c3 | (simp at c3 ⊢; omega)
  obtain rfl := Option.some.inj H
  go_enter Try.func55, Try.ntmps55
  go_wp2
  repeat (go_quiet (fail); try go_wp2)
  go_ret
  exact ⟨by first | rfl | (simp; done) | (simp [*]; done), by repeat (first | exact Drawn0.refl _ | apply Drawn0.step)⟩
def copyholdref07_Same.f (k : Nat) (a0_0 : Int) (a0_1 : Int) (a0_2 : Int) (a0_3 : ByteArray) (l0_4 : List (S91)) (a1_0 : Int) (a1_1 : Int) (a1_2 : Int) (a1_3 : ByteArray) (l1_4 : List (S91)) : Option (Bool) := (copyholdref06_Same.f k l0_4 l1_4).bind fun t146 => (if t146 = true then (if a0_0 = a1_0 then (if a0_1 = a1_1 then (if a0_2 = a1_2 then (some (a0_3.toList == a1_3.toList)) else (some false)) else (some false)) else (some false)) else (some false))
theorem copyholdref07_Same.mono : ∀ a0 a1 a2 a3 a4 a5 a6 a7 a8 a9 k, LeO (copyholdref07_Same.f k a0 a1 a2 a3 a4 a5 a6 a7 a8 a9) (copyholdref07_Same.f (k + 1) a0 a1 a2 a3 a4 a5 a6 a7 a8 a9) := by
 intro a0 a1 a2 a3 a4 a5 a6 a7 a8 a9 k
 unfold copyholdref07_Same.f
 repeat' first
   | (with_reducible exact copyholdref06_Same.mono _ _ _)
   | (with_reducible exact LeO.refl _)
   | (with_reducible exact LeO.none _)
   | (with_reducible refine LeO.ite ?_ ?_)
   | (with_reducible refine LeO.bind ?_ (fun _ => ?_))
   | exact copyholdref06_Same.mono _ _ _
   | exact LeO.none _
   | refine LeO.ite ?_ ?_
   | refine LeO.bind ?_ (fun _ => ?_)
set_option maxHeartbeats 8000000 in
set_option maxRecDepth 100000 in
theorem copyholdref07_Same.calls (k : Nat) (a0_0 : Int) (a0_1 : Int) (a0_2 : Int) (a0_3 : ByteArray) (A0_4 : Option Addr) (c0_4 : Nat) (l0_4 : List (S91)) (a1_0 : Int) (a1_1 : Int) (a1_2 : Int) (a1_3 : ByteArray) (A1_4 : Option Addr) (c1_4 : Nat) (l1_4 : List (S91)) (r : Bool) (w : World) (hr0_4 : Kd.C k91 w A0_4 l0_4.length l0_4) (hc0_4 : l0_4.length ≤ c0_4) (hr1_4 : Kd.C k91 w A1_4 l1_4.length l1_4) (hc1_4 : l1_4.length ≤ c1_4) (h : copyholdref07_Same.f k a0_0 a0_1 a0_2 a0_3 l0_4 a1_0 a1_1 a1_2 a1_3 l1_4 = some r) :
  Calls Try.prog 30 #[.agg #[.int .i64 a0_0, .int .i64 a0_1, .int .i64 a0_2, .string a0_3, .slice A0_4 l0_4.length c0_4], .agg #[.int .i64 a1_0, .int .i64 a1_1, .int .i64 a1_2, .string a1_3, .slice A1_4 l1_4.length c1_4]] w fun e w' => e = .returned (.bool r) ∧ Below w.heap.size w w' := by
 have hu38 := Try.underlying38
 have HR0_4 := zqj hr0_4
 have HC0_4 := zqj hc0_4
 clear hr0_4 hc0_4
 have HR1_4 := zqj hr1_4
 have HC1_4 := zqj hc1_4
 clear hr1_4 hc1_4
 have HB := zqj (Below.refl w.heap.size w)
 have H : ((copyholdref06_Same.f k l0_4 l1_4).bind fun t146 => (if t146 = true then (if a0_0 = a1_0 then (if a0_1 = a1_1 then (if a0_2 = a1_2 then (some (a0_3.toList == a1_3.toList)) else (some false)) else (some false)) else (some false)) else (some false))) = some r := h
 clear h
 replace H := zqn H
 obtain ⟨t146, A30, H⟩ := H
 replace H : (if t146 = true then (if a0_0 = a1_0 then (if a0_1 = a1_1 then (if a0_2 = a1_2 then (some (a0_3.toList == a1_3.toList)) else (some false)) else (some false)) else (some false)) else (some false)) = some r := H
 have A3 := zqj A30
 clear A30
 by_cases c4 : t146 = true
 ·subst c4
  have H1 : (if a0_0 = a1_0 then (if a0_1 = a1_1 then (if a0_2 = a1_2 then (some (a0_3.toList == a1_3.toList)) else (some false)) else (some false)) else (some false)) = some r := by rw [if_pos rfl] at H; exact H
  clear H
  have H := H1
  clear H1
  by_cases c5 : a0_0 = a1_0
  ·rw [if_pos c5] at H
   have c5b0 : (a0_0 == a1_0) = true := beq_iff_eq.mpr c5
   have c5b1 : (a0_0 != a1_0) = false := bne_eq_false_iff_eq.mpr c5
   clear c5
   by_cases c6 : a0_1 = a1_1
   ·rw [if_pos c6] at H
    have c6b0 : (a0_1 == a1_1) = true := beq_iff_eq.mpr c6
    have c6b1 : (a0_1 != a1_1) = false := bne_eq_false_iff_eq.mpr c6
    clear c6
    by_cases c7 : a0_2 = a1_2
    ·rw [if_pos c7] at H
     have c7b0 : (a0_2 == a1_2) = true := beq_iff_eq.mpr c7
     have c7b1 : (a0_2 != a1_2) = false := bne_eq_false_iff_eq.mpr c7
     clear c7
     obtain rfl := Option.some.inj H
     go_enter Try.func30, Try.ntmps30
     go_wp2_with (first | ((with_reducible refine gate_dst (N := 2) rfl ?_); refine box_event ?hg (N := 2) ?hd (cs := #[.int .i64 a0_0, .int .i64 a0_1, .int .i64 a0_2, .string a0_3, .slice A0_4 l0_4.length c0_4]) (t := 38) ?hr ?_; (case hd => rfl); (case hg => rfl); (case hr => exact zrr); intro gb144 hg w8 hbox hb; have n0_ := zqj (below_step (zrd0 HB.out) hb); have n1_ := zqj (hbox); have n2_ : Aside0 (w.heap.size ≤ gb144) := ⟨by rw [hg]; exact below_size (zrd0 HB.out)⟩; have n3_ := n2_; clear HB; have HB := n0_; have BK144 := n1_; have GW144 := n2_; have GE144 := n3_; clear n0_ n1_ n2_ n3_; clear hb hbox hg) | ((with_reducible refine gate_dst (N := 3) rfl ?_); refine box_event ?hg (N := 3) ?hd (cs := #[.int .i64 a1_0, .int .i64 a1_1, .int .i64 a1_2, .string a1_3, .slice A1_4 l1_4.length c1_4]) (t := 38) ?hr ?_; (case hd => rfl); (case hg => rfl); (case hr => exact zrr); intro gb145 hg w9 hbox hb; have n0_ := zqj (blk_below (g := gb144) (o := .cells #[.int .i64 a0_0, .int .i64 a0_1, .int .i64 a0_2, .string a0_3, .slice A0_4 l0_4.length c0_4] 38 (0, 0)) (zrb BK144.out) hb); have n1_ := zqj (below_step (zrd1 HB.out GE144.out) hb); have n2_ := zqj (hbox); have n3_ := zqj ((by rw [hg]; exact (below_size (zrd1 HB.out GE144.out)) : w.heap.size ≤ gb145)); have n4_ := zqj ((by rw [hg]; exact (below_size (zrd1 HB.out GE144.out)) : w.heap.size ≤ gb145)); have n5_ := zqj ((by rw [hg]; exact Nat.ne_of_lt (blk_lt (g := gb144) (o := .cells #[.int .i64 a0_0, .int .i64 a0_1, .int .i64 a0_2, .string a0_3, .slice A0_4 l0_4.length c0_4] 38 (0, 0)) (zrb BK144.out)) : gb144 ≠ gb145)); have n6_ := zqj ((by rw [hg]; exact Nat.ne_of_gt (blk_lt (g := gb144) (o := .cells #[.int .i64 a0_0, .int .i64 a0_1, .int .i64 a0_2, .string a0_3, .slice A0_4 l0_4.length c0_4] 38 (0, 0)) (zrb BK144.out)) : gb145 ≠ gb144)); clear BK144; clear HB; have BK144 := n0_; have HB := n1_; have BK145 := n2_; have GW145 := n3_; have GE145 := n4_; have NB144_145 := n5_; have NB145_144 := n6_; clear n0_ n1_ n2_ n3_ n4_ n5_ n6_; clear hb hbox hg; have hnb10 := NB144_145.out; have hnc10 := NB145_144.out; obtain ⟨hcz11_0, hcz11_1, hcz11_2, hcz11_3, hcz11_4⟩ := zc5 BK144.out; obtain ⟨hfz11_0, hfz11_1, hfz11_2, hfz11_3, hfz11_4⟩ := zf5 BK144.out; obtain ⟨hcz12_0, hcz12_1, hcz12_2, hcz12_3, hcz12_4⟩ := zc5 BK145.out; obtain ⟨hfz12_0, hfz12_1, hfz12_2, hfz12_3, hfz12_4⟩ := zf5 BK145.out) | ((with_reducible refine gate_callee (f := 55) rfl ?_); refine goesL_ (some 10) rfl rfl Try.func55 (by kernel_rfl) rfl #[.slice A0_4 l0_4.length c0_4, .slice A1_4 l1_4.length c1_4] rfl zra ?_; (with_reducible refine (copyholdref06_Same.calls k _ _ l0_4 _ _ l1_4 true _ ?side1 ?side2 ?side3 ?side4 A3.out).mono ?_); (case side1 => exact zrc (Kd.C_below HR0_4.out HB.out)); (case side2 => exact HC0_4.out); (case side3 => exact zrc (Kd.C_below HR1_4.out HB.out)); (case side4 => exact HC1_4.out); rintro e w' ⟨rfl, ⟨nd, rfl⟩⟩; refine ⟨_, rfl, ?_⟩))
     go_ret
     exact ⟨zru, by repeat (first | (with_reducible first | exact HB.out | apply zqg | apply zqe | apply zqf | refine zqd ?_ GE144.out | refine zqd ?_ GE145.out) | exact HB.out)⟩
    ·rw [if_neg c7] at H
     have c7b0 : (a0_2 == a1_2) = false := beq_eq_false_iff_ne.mpr c7
     have c7b1 : (a0_2 != a1_2) = true := bne_iff_ne.mpr c7
     obtain rfl := Option.some.inj H
     go_enter Try.func30, Try.ntmps30
     go_wp2_with (first | ((with_reducible refine gate_dst (N := 2) rfl ?_); refine box_event ?hg (N := 2) ?hd (cs := #[.int .i64 a0_0, .int .i64 a0_1, .int .i64 a0_2, .string a0_3, .slice A0_4 l0_4.length c0_4]) (t := 38) ?hr ?_; (case hd => rfl); (case hg => rfl); (case hr => exact zrr); intro gb144 hg w13 hbox hb; have n0_ := zqj (below_step (zrd0 HB.out) hb); have n1_ := zqj (hbox); have n2_ : Aside0 (w.heap.size ≤ gb144) := ⟨by rw [hg]; exact below_size (zrd0 HB.out)⟩; have n3_ := n2_; clear HB; have HB := n0_; have BK144 := n1_; have GW144 := n2_; have GE144 := n3_; clear n0_ n1_ n2_ n3_; clear hb hbox hg) | ((with_reducible refine gate_dst (N := 3) rfl ?_); refine box_event ?hg (N := 3) ?hd (cs := #[.int .i64 a1_0, .int .i64 a1_1, .int .i64 a1_2, .string a1_3, .slice A1_4 l1_4.length c1_4]) (t := 38) ?hr ?_; (case hd => rfl); (case hg => rfl); (case hr => exact zrr); intro gb145 hg w14 hbox hb; have n0_ := zqj (blk_below (g := gb144) (o := .cells #[.int .i64 a0_0, .int .i64 a0_1, .int .i64 a0_2, .string a0_3, .slice A0_4 l0_4.length c0_4] 38 (0, 0)) (zrb BK144.out) hb); have n1_ := zqj (below_step (zrd1 HB.out GE144.out) hb); have n2_ := zqj (hbox); have n3_ := zqj ((by rw [hg]; exact (below_size (zrd1 HB.out GE144.out)) : w.heap.size ≤ gb145)); have n4_ := zqj ((by rw [hg]; exact (below_size (zrd1 HB.out GE144.out)) : w.heap.size ≤ gb145)); have n5_ := zqj ((by rw [hg]; exact Nat.ne_of_lt (blk_lt (g := gb144) (o := .cells #[.int .i64 a0_0, .int .i64 a0_1, .int .i64 a0_2, .string a0_3, .slice A0_4 l0_4.length c0_4] 38 (0, 0)) (zrb BK144.out)) : gb144 ≠ gb145)); have n6_ := zqj ((by rw [hg]; exact Nat.ne_of_gt (blk_lt (g := gb144) (o := .cells #[.int .i64 a0_0, .int .i64 a0_1, .int .i64 a0_2, .string a0_3, .slice A0_4 l0_4.length c0_4] 38 (0, 0)) (zrb BK144.out)) : gb145 ≠ gb144)); clear BK144; clear HB; have BK144 := n0_; have HB := n1_; have BK145 := n2_; have GW145 := n3_; have GE145 := n4_; have NB144_145 := n5_; have NB145_144 := n6_; clear n0_ n1_ n2_ n3_ n4_ n5_ n6_; clear hb hbox hg; have hnb15 := NB144_145.out; have hnc15 := NB145_144.out; obtain ⟨hcz16_0, hcz16_1, hcz16_2, hcz16_3, hcz16_4⟩ := zc5 BK144.out; obtain ⟨hfz16_0, hfz16_1, hfz16_2, hfz16_3, hfz16_4⟩ := zf5 BK144.out; obtain ⟨hcz17_0, hcz17_1, hcz17_2, hcz17_3, hcz17_4⟩ := zc5 BK145.out; obtain ⟨hfz17_0, hfz17_1, hfz17_2, hfz17_3, hfz17_4⟩ := zf5 BK145.out) | ((with_reducible refine gate_callee (f := 55) rfl ?_); refine goesL_ (some 10) rfl rfl Try.func55 (by kernel_rfl) rfl #[.slice A0_4 l0_4.length c0_4, .slice A1_4 l1_4.length c1_4] rfl zra ?_; (with_reducible refine (copyholdref06_Same.calls k _ _ l0_4 _ _ l1_4 true _ ?side1 ?side2 ?side3 ?side4 A3.out).mono ?_); (case side1 => exact zrc (Kd.C_below HR0_4.out HB.out)); (case side2 => exact HC0_4.out); (case side3 => exact zrc (Kd.C_below HR1_4.out HB.out)); (case side4 => exact HC1_4.out); rintro e w' ⟨rfl, ⟨nd, rfl⟩⟩; refine ⟨_, rfl, ?_⟩))
     go_ret
     exact ⟨zru, by repeat (first | (with_reducible first | exact HB.out | apply zqg | apply zqe | apply zqf | refine zqd ?_ GE144.out | refine zqd ?_ GE145.out) | exact HB.out)⟩
   ·rw [if_neg c6] at H
    have c6b0 : (a0_1 == a1_1) = false := beq_eq_false_iff_ne.mpr c6
    have c6b1 : (a0_1 != a1_1) = true := bne_iff_ne.mpr c6
    obtain rfl := Option.some.inj H
    go_enter Try.func30, Try.ntmps30
    go_wp2_with (first | ((with_reducible refine gate_dst (N := 2) rfl ?_); refine box_event ?hg (N := 2) ?hd (cs := #[.int .i64 a0_0, .int .i64 a0_1, .int .i64 a0_2, .string a0_3, .slice A0_4 l0_4.length c0_4]) (t := 38) ?hr ?_; (case hd => rfl); (case hg => rfl); (case hr => exact zrr); intro gb144 hg w18 hbox hb; have n0_ := zqj (below_step (zrd0 HB.out) hb); have n1_ := zqj (hbox); have n2_ : Aside0 (w.heap.size ≤ gb144) := ⟨by rw [hg]; exact below_size (zrd0 HB.out)⟩; have n3_ := n2_; clear HB; have HB := n0_; have BK144 := n1_; have GW144 := n2_; have GE144 := n3_; clear n0_ n1_ n2_ n3_; clear hb hbox hg) | ((with_reducible refine gate_dst (N := 3) rfl ?_); refine box_event ?hg (N := 3) ?hd (cs := #[.int .i64 a1_0, .int .i64 a1_1, .int .i64 a1_2, .string a1_3, .slice A1_4 l1_4.length c1_4]) (t := 38) ?hr ?_; (case hd => rfl); (case hg => rfl); (case hr => exact zrr); intro gb145 hg w19 hbox hb; have n0_ := zqj (blk_below (g := gb144) (o := .cells #[.int .i64 a0_0, .int .i64 a0_1, .int .i64 a0_2, .string a0_3, .slice A0_4 l0_4.length c0_4] 38 (0, 0)) (zrb BK144.out) hb); have n1_ := zqj (below_step (zrd1 HB.out GE144.out) hb); have n2_ := zqj (hbox); have n3_ := zqj ((by rw [hg]; exact (below_size (zrd1 HB.out GE144.out)) : w.heap.size ≤ gb145)); have n4_ := zqj ((by rw [hg]; exact (below_size (zrd1 HB.out GE144.out)) : w.heap.size ≤ gb145)); have n5_ := zqj ((by rw [hg]; exact Nat.ne_of_lt (blk_lt (g := gb144) (o := .cells #[.int .i64 a0_0, .int .i64 a0_1, .int .i64 a0_2, .string a0_3, .slice A0_4 l0_4.length c0_4] 38 (0, 0)) (zrb BK144.out)) : gb144 ≠ gb145)); have n6_ := zqj ((by rw [hg]; exact Nat.ne_of_gt (blk_lt (g := gb144) (o := .cells #[.int .i64 a0_0, .int .i64 a0_1, .int .i64 a0_2, .string a0_3, .slice A0_4 l0_4.length c0_4] 38 (0, 0)) (zrb BK144.out)) : gb145 ≠ gb144)); clear BK144; clear HB; have BK144 := n0_; have HB := n1_; have BK145 := n2_; have GW145 := n3_; have GE145 := n4_; have NB144_145 := n5_; have NB145_144 := n6_; clear n0_ n1_ n2_ n3_ n4_ n5_ n6_; clear hb hbox hg; have hnb20 := NB144_145.out; have hnc20 := NB145_144.out; obtain ⟨hcz21_0, hcz21_1, hcz21_2, hcz21_3, hcz21_4⟩ := zc5 BK144.out; obtain ⟨hfz21_0, hfz21_1, hfz21_2, hfz21_3, hfz21_4⟩ := zf5 BK144.out; obtain ⟨hcz22_0, hcz22_1, hcz22_2, hcz22_3, hcz22_4⟩ := zc5 BK145.out; obtain ⟨hfz22_0, hfz22_1, hfz22_2, hfz22_3, hfz22_4⟩ := zf5 BK145.out) | ((with_reducible refine gate_callee (f := 55) rfl ?_); refine goesL_ (some 10) rfl rfl Try.func55 (by kernel_rfl) rfl #[.slice A0_4 l0_4.length c0_4, .slice A1_4 l1_4.length c1_4] rfl zra ?_; (with_reducible refine (copyholdref06_Same.calls k _ _ l0_4 _ _ l1_4 true _ ?side1 ?side2 ?side3 ?side4 A3.out).mono ?_); (case side1 => exact zrc (Kd.C_below HR0_4.out HB.out)); (case side2 => exact HC0_4.out); (case side3 => exact zrc (Kd.C_below HR1_4.out HB.out)); (case side4 => exact HC1_4.out); rintro e w' ⟨rfl, ⟨nd, rfl⟩⟩; refine ⟨_, rfl, ?_⟩))
    go_ret
    exact ⟨zru, by repeat (first | (with_reducible first | exact HB.out | apply zqg | apply zqe | apply zqf | refine zqd ?_ GE144.out | refine zqd ?_ GE145.out) | exact HB.out)⟩
  ·rw [if_neg c5] at H
   have c5b0 : (a0_0 == a1_0) = false := beq_eq_false_iff_ne.mpr c5
   have c5b1 : (a0_0 != a1_0) = true := bne_iff_ne.mpr c5
   obtain rfl := Option.some.inj H
   go_enter Try.func30, Try.ntmps30
   go_wp2_with (first | ((with_reducible refine gate_dst (N := 2) rfl ?_); refine box_event ?hg (N := 2) ?hd (cs := #[.int .i64 a0_0, .int .i64 a0_1, .int .i64 a0_2, .string a0_3, .slice A0_4 l0_4.length c0_4]) (t := 38) ?hr ?_; (case hd => rfl); (case hg => rfl); (case hr => exact zrr); intro gb144 hg w23 hbox hb; have n0_ := zqj (below_step (zrd0 HB.out) hb); have n1_ := zqj (hbox); have n2_ : Aside0 (w.heap.size ≤ gb144) := ⟨by rw [hg]; exact below_size (zrd0 HB.out)⟩; have n3_ := n2_; clear HB; have HB := n0_; have BK144 := n1_; have GW144 := n2_; have GE144 := n3_; clear n0_ n1_ n2_ n3_; clear hb hbox hg) | ((with_reducible refine gate_dst (N := 3) rfl ?_); refine box_event ?hg (N := 3) ?hd (cs := #[.int .i64 a1_0, .int .i64 a1_1, .int .i64 a1_2, .string a1_3, .slice A1_4 l1_4.length c1_4]) (t := 38) ?hr ?_; (case hd => rfl); (case hg => rfl); (case hr => exact zrr); intro gb145 hg w24 hbox hb; have n0_ := zqj (blk_below (g := gb144) (o := .cells #[.int .i64 a0_0, .int .i64 a0_1, .int .i64 a0_2, .string a0_3, .slice A0_4 l0_4.length c0_4] 38 (0, 0)) (zrb BK144.out) hb); have n1_ := zqj (below_step (zrd1 HB.out GE144.out) hb); have n2_ := zqj (hbox); have n3_ := zqj ((by rw [hg]; exact (below_size (zrd1 HB.out GE144.out)) : w.heap.size ≤ gb145)); have n4_ := zqj ((by rw [hg]; exact (below_size (zrd1 HB.out GE144.out)) : w.heap.size ≤ gb145)); have n5_ := zqj ((by rw [hg]; exact Nat.ne_of_lt (blk_lt (g := gb144) (o := .cells #[.int .i64 a0_0, .int .i64 a0_1, .int .i64 a0_2, .string a0_3, .slice A0_4 l0_4.length c0_4] 38 (0, 0)) (zrb BK144.out)) : gb144 ≠ gb145)); have n6_ := zqj ((by rw [hg]; exact Nat.ne_of_gt (blk_lt (g := gb144) (o := .cells #[.int .i64 a0_0, .int .i64 a0_1, .int .i64 a0_2, .string a0_3, .slice A0_4 l0_4.length c0_4] 38 (0, 0)) (zrb BK144.out)) : gb145 ≠ gb144)); clear BK144; clear HB; have BK144 := n0_; have HB := n1_; have BK145 := n2_; have GW145 := n3_; have GE145 := n4_; have NB144_145 := n5_; have NB145_144 := n6_; clear n0_ n1_ n2_ n3_ n4_ n5_ n6_; clear hb hbox hg; have hnb25 := NB144_145.out; have hnc25 := NB145_144.out; obtain ⟨hcz26_0, hcz26_1, hcz26_2, hcz26_3, hcz26_4⟩ := zc5 BK144.out; obtain ⟨hfz26_0, hfz26_1, hfz26_2, hfz26_3, hfz26_4⟩ := zf5 BK144.out; obtain ⟨hcz27_0, hcz27_1, hcz27_2, hcz27_3, hcz27_4⟩ := zc5 BK145.out; obtain ⟨hfz27_0, hfz27_1, hfz27_2, hfz27_3, hfz27_4⟩ := zf5 BK145.out) | ((with_reducible refine gate_callee (f := 55) rfl ?_); refine goesL_ (some 10) rfl rfl Try.func55 (by kernel_rfl) rfl #[.slice A0_4 l0_4.length c0_4, .slice A1_4 l1_4.length c1_4] rfl zra ?_; (with_reducible refine (copyholdref06_Same.calls k _ _ l0_4 _ _ l1_4 true _ ?side1 ?side2 ?side3 ?side4 A3.out).mono ?_); (case side1 => exact zrc (Kd.C_below HR0_4.out HB.out)); (case side2 => exact HC0_4.out); (case side3 => exact zrc (Kd.C_below HR1_4.out HB.out)); (case side4 => exact HC1_4.out); rintro e w' ⟨rfl, ⟨nd, rfl⟩⟩; refine ⟨_, rfl, ?_⟩))
   go_ret
   exact ⟨zru, by repeat (first | (with_reducible first | exact HB.out | apply zqg | apply zqe | apply zqf | refine zqd ?_ GE144.out | refine zqd ?_ GE145.out) | exact HB.out)⟩
 ·replace c4 := Bool.eq_false_iff.mpr c4
  subst c4
  have H1 : (some false) = some r := by rw [if_neg (show ¬ (false = true) by decide)] at H; exact H
  clear H
  have H := H1
  clear H1
  obtain rfl := Option.some.inj H
  go_enter Try.func30, Try.ntmps30
  go_wp2_with (first | ((with_reducible refine gate_dst (N := 2) rfl ?_); refine box_event ?hg (N := 2) ?hd (cs := #[.int .i64 a0_0, .int .i64 a0_1, .int .i64 a0_2, .string a0_3, .slice A0_4 l0_4.length c0_4]) (t := 38) ?hr ?_; (case hd => rfl); (case hg => rfl); (case hr => exact zrr); intro gb144 hg w28 hbox hb; have n0_ := zqj (below_step (zrd0 HB.out) hb); have n1_ := zqj (hbox); have n2_ : Aside0 (w.heap.size ≤ gb144) := ⟨by rw [hg]; exact below_size (zrd0 HB.out)⟩; have n3_ := n2_; clear HB; have HB := n0_; have BK144 := n1_; have GW144 := n2_; have GE144 := n3_; clear n0_ n1_ n2_ n3_; clear hb hbox hg) | ((with_reducible refine gate_dst (N := 3) rfl ?_); refine box_event ?hg (N := 3) ?hd (cs := #[.int .i64 a1_0, .int .i64 a1_1, .int .i64 a1_2, .string a1_3, .slice A1_4 l1_4.length c1_4]) (t := 38) ?hr ?_; (case hd => rfl); (case hg => rfl); (case hr => exact zrr); intro gb145 hg w29 hbox hb; have n0_ := zqj (blk_below (g := gb144) (o := .cells #[.int .i64 a0_0, .int .i64 a0_1, .int .i64 a0_2, .string a0_3, .slice A0_4 l0_4.length c0_4] 38 (0, 0)) (zrb BK144.out) hb); have n1_ := zqj (below_step (zrd1 HB.out GE144.out) hb); have n2_ := zqj (hbox); have n3_ := zqj ((by rw [hg]; exact (below_size (zrd1 HB.out GE144.out)) : w.heap.size ≤ gb145)); have n4_ := zqj ((by rw [hg]; exact (below_size (zrd1 HB.out GE144.out)) : w.heap.size ≤ gb145)); have n5_ := zqj ((by rw [hg]; exact Nat.ne_of_lt (blk_lt (g := gb144) (o := .cells #[.int .i64 a0_0, .int .i64 a0_1, .int .i64 a0_2, .string a0_3, .slice A0_4 l0_4.length c0_4] 38 (0, 0)) (zrb BK144.out)) : gb144 ≠ gb145)); have n6_ := zqj ((by rw [hg]; exact Nat.ne_of_gt (blk_lt (g := gb144) (o := .cells #[.int .i64 a0_0, .int .i64 a0_1, .int .i64 a0_2, .string a0_3, .slice A0_4 l0_4.length c0_4] 38 (0, 0)) (zrb BK144.out)) : gb145 ≠ gb144)); clear BK144; clear HB; have BK144 := n0_; have HB := n1_; have BK145 := n2_; have GW145 := n3_; have GE145 := n4_; have NB144_145 := n5_; have NB145_144 := n6_; clear n0_ n1_ n2_ n3_ n4_ n5_ n6_; clear hb hbox hg; have hnb30 := NB144_145.out; have hnc30 := NB145_144.out; obtain ⟨hcz31_0, hcz31_1, hcz31_2, hcz31_3, hcz31_4⟩ := zc5 BK144.out; obtain ⟨hfz31_0, hfz31_1, hfz31_2, hfz31_3, hfz31_4⟩ := zf5 BK144.out; obtain ⟨hcz32_0, hcz32_1, hcz32_2, hcz32_3, hcz32_4⟩ := zc5 BK145.out; obtain ⟨hfz32_0, hfz32_1, hfz32_2, hfz32_3, hfz32_4⟩ := zf5 BK145.out) | ((with_reducible refine gate_callee (f := 55) rfl ?_); refine goesL_ (some 10) rfl rfl Try.func55 (by kernel_rfl) rfl #[.slice A0_4 l0_4.length c0_4, .slice A1_4 l1_4.length c1_4] rfl zra ?_; (with_reducible refine (copyholdref06_Same.calls k _ _ l0_4 _ _ l1_4 false _ ?side1 ?side2 ?side3 ?side4 A3.out).mono ?_); (case side1 => exact zrc (Kd.C_below HR0_4.out HB.out)); (case side2 => exact HC0_4.out); (case side3 => exact zrc (Kd.C_below HR1_4.out HB.out)); (case side4 => exact HC1_4.out); rintro e w' ⟨rfl, ⟨nd, rfl⟩⟩; refine ⟨_, rfl, ?_⟩))
  go_ret
  exact ⟨zru, by repeat (first | (with_reducible first | exact HB.out | apply zqg | apply zqe | apply zqf | refine zqd ?_ GE144.out | refine zqd ?_ GE145.out) | exact HB.out)⟩
end Go.Proofs.Ytdkgkiemndlneaa.X
end

section
namespace Go.Proofs.Ytdkgkiemndlneaa.X
open Go.RowKit Go.Proofs.YtdkgkiemndlneaaW.PrintWords Go.Proofs.YtdkgkiemndlneaaW.PrintLast Go.Proofs.YtdkgkiemndlneaaW.PrintMore
attribute [local go_sem] max2_int min2_int max_two min_two max_three min_three max_four min_four   -- for this text's walks alone
attribute [local go_sem high] Go.Proofs.Ytdkgkiemndlneaa.px_xor_u8 Go.Proofs.Ytdkgkiemndlneaa.px_xor_u16 Go.Proofs.Ytdkgkiemndlneaa.px_xor_u32 Go.Proofs.Ytdkgkiemndlneaa.px_xor_u64
end Go.Proofs.Ytdkgkiemndlneaa.X
end

section
namespace Go.Proofs.Ytdkgkiemndlneaa.Math
open Go.RowKit
theorem tl (s : ByteArray) : s.toList = s.data.toList := ByteArray.toList_eq s
theorem sz (s : ByteArray) : s.size = s.data.toList.length := by rw [Array.length_toList]; rfl
theorem inj {a b : ByteArray} (h : a.data.toList = b.data.toList) : a = b := WideShapes.bytes_inj h
theorem w64 {n : Int} (h0 : -9223372036854775808 ≤ n) (h1 : n ≤ 9223372036854775807) : wrap64 n = n := by unfold wrap64; omega
theorem bs {α β : Type} {o : Option α} {a : α} {g : α → Option β} (h : o = some a) : o.bind g = g a := by rw [h]; rfl
end Go.Proofs.Ytdkgkiemndlneaa.Math
end

section
namespace Go.Proofs.Ytdkgkiemndlneaa
open Go.RowKit Go.Proofs.Ytdkgkiemndlneaa.Q Go.Proofs.YtdkgkiemndlneaaW.PrintWords Go.Proofs.YtdkgkiemndlneaaW.PrintLast Go.Proofs.YtdkgkiemndlneaaW.PrintMore Math
def okP : Option Int → Int → Bool
  | none, _ => true
  | some q, x => decide (q < x)
def riseGo (last : Int) : Option Int → List Int → Bool
  | _, [] => true
  | p, x :: r => decide (1 ≤ x) && (decide (x ≤ last) && (okP p x && riseGo last (some x) r))
def riseF (l : List Int) (last : Int) : Bool := riseGo last none l && decide (0 < l.length)
def prevOf (l : List Int) : Nat → Option Int
  | 0 => none
  | i + 1 => l[i]?
theorem vs {β : Type} (a : Int) (b : Bool) (c d e : Int) (f : ByteArray) (g : List S91) (k : Int → Option β) : (X.store_versed.f a b c d e f g).bind k = k a := rfl
theorem cs {β : Type} (a b : Int) (k : Int → Option β) : (X.store_counted.f a b).bind k = k a := rfl
theorem rdV {l : List S58} {i : Nat} (h : i < l.length) : rd_T58 l (i : Int) = l[i] := by unfold rd_T58; rw [Int.toNat_natCast]; simp [List.getD_eq_getElem?_getD, h]
theorem rdC {l : List S61} {i : Nat} (h : i < l.length) : rd_T61 l (i : Int) = l[i] := by unfold rd_T61; rw [Int.toNat_natCast]; simp [List.getD_eq_getElem?_getD, h]
theorem rdE {l : List S91} {i : Nat} (h : i < l.length) : rd_T91 l (i : Int) = l[i] := by unfold rd_T91; rw [Int.toNat_natCast]; simp [List.getD_eq_getElem?_getD, h]
theorem rdH {l : List S55} {i : Nat} (h : i < l.length) : rd_T55 l (i : Int) = l[i] := by unfold rd_T55; rw [Int.toNat_natCast]; simp [List.getD_eq_getElem?_getD, h]
theorem toLe {a b : ByteArray} : a.toList = b.toList ↔ a = b := ⟨fun h => inj (by rw [← tl, ← tl]; exact h), fun h => h ▸ rfl⟩
theorem rise_ver (l : List S58) (last : Int) (hl : l.length ≤ 9223372036854775807) (k : Nat) (hk : l.length < k) : X.api_Ver.f k l last () = some (riseF (l.map fun x => x.f0) last) := by
  have go : ∀ (n i k : Nat), i + n = l.length → n < k → X.api_Ver.l0 k l last l (l.length : Int) (i : Int) = some (riseGo last (prevOf (l.map fun x => x.f0) i) ((l.map fun x => x.f0).drop i) && decide (0 < l.length)) := by
    intro n
    induction n with
    | zero =>
      intro i k hi hk; obtain ⟨k, rfl⟩ : ∃ j, k = j + 1 := ⟨k - 1, by omega⟩
      rw [X.api_Ver.l0, if_neg (by omega), List.drop_eq_nil_of_le (by rw [List.length_map]; omega)]
      simp only [riseGo, Bool.true_and]
      congr 1; exact decide_eq_decide.2 (by omega)
    | succ n ih =>
      intro i k hi hk; obtain ⟨k, rfl⟩ : ∃ j, k = j + 1 := ⟨k - 1, by omega⟩
      have h : i < l.length := by omega
      have h' : i < (l.map fun x => x.f0).length := by rw [List.length_map]; exact h
      rw [X.api_Ver.l0, if_pos (by omega), if_pos (by omega), if_pos (by omega), rdV h, List.drop_eq_getElem_cons h', List.getElem_map, riseGo]
      rw [vs]
      by_cases e1 : l[i].f0 < 1
      · rw [if_pos e1, decide_eq_false (by omega)]; rfl
      · rw [if_neg e1, decide_eq_true (show 1 ≤ l[i].f0 by omega), Bool.true_and, vs]
        by_cases e2 : l[i].f0 > last
        · rw [if_pos e2, decide_eq_false (by omega)]; rfl
        · rw [if_neg e2, decide_eq_true (show l[i].f0 ≤ last by omega), Bool.true_and]
          cases i with
          | zero =>
            rw [if_neg (by omega)]
            simp only [prevOf, okP, Bool.true_and]
            have q := ih 1 k (by omega) (by omega)
            simp only [prevOf] at q
            rw [List.getElem?_eq_getElem h', List.getElem_map] at q
            rw [w64 (by omega) (by omega)]
            exact q
          | succ j =>
            have hj : j < l.length := by omega
            have hj' : j < (l.map fun x => x.f0).length := by rw [List.length_map]; exact hj
            rw [if_pos (by omega), show wrap64 (((j + 1 : Nat) : Int) - 1) = (j : Int) by rw [w64 (by omega) (by omega)]; omega, if_pos (by omega), if_pos (by omega), rdV hj, vs, vs]
            have ep : prevOf (l.map fun x => x.f0) (j + 1) = some l[j].f0 := by simp only [prevOf]; rw [List.getElem?_eq_getElem hj', List.getElem_map]
            rw [ep, okP]
            by_cases e3 : l[j].f0 ≥ l[j + 1].f0
            · rw [if_pos e3, decide_eq_false (by omega)]; rfl
            · rw [if_neg e3, decide_eq_true (by omega), Bool.true_and]
              have q := ih (j + 1 + 1) k (by omega) (by omega)
              simp only [prevOf] at q
              rw [List.getElem?_eq_getElem h', List.getElem_map] at q
              rw [w64 (by omega) (by omega)]
              exact q
  unfold X.api_Ver.f
  have q := go l.length 0 k (by omega) hk
  rw [List.drop_zero] at q
  unfold riseF
  rw [List.length_map]
  exact q
theorem rise_cnt (l : List S61) (last : Int) (hl : l.length ≤ 9223372036854775807) (k : Nat) (hk : l.length < k) : X.api_Count_41.f k l last () = some (riseF (l.map fun x => x.f0) last) := by
  have go : ∀ (n i k : Nat), i + n = l.length → n < k → X.api_Count_41.l0 k l last l (l.length : Int) (i : Int) = some (riseGo last (prevOf (l.map fun x => x.f0) i) ((l.map fun x => x.f0).drop i) && decide (0 < l.length)) := by
    intro n
    induction n with
    | zero =>
      intro i k hi hk; obtain ⟨k, rfl⟩ : ∃ j, k = j + 1 := ⟨k - 1, by omega⟩
      rw [X.api_Count_41.l0, if_neg (by omega), List.drop_eq_nil_of_le (by rw [List.length_map]; omega)]
      simp only [riseGo, Bool.true_and]
      congr 1; exact decide_eq_decide.2 (by omega)
    | succ n ih =>
      intro i k hi hk; obtain ⟨k, rfl⟩ : ∃ j, k = j + 1 := ⟨k - 1, by omega⟩
      have h : i < l.length := by omega
      have h' : i < (l.map fun x => x.f0).length := by rw [List.length_map]; exact h
      rw [X.api_Count_41.l0, if_pos (by omega), if_pos (by omega), if_pos (by omega), rdC h, List.drop_eq_getElem_cons h', List.getElem_map, riseGo]
      rw [cs]
      by_cases e1 : l[i].f0 < 1
      · rw [if_pos e1, decide_eq_false (by omega)]; rfl
      · rw [if_neg e1, decide_eq_true (show 1 ≤ l[i].f0 by omega), Bool.true_and, cs]
        by_cases e2 : l[i].f0 > last
        · rw [if_pos e2, decide_eq_false (by omega)]; rfl
        · rw [if_neg e2, decide_eq_true (show l[i].f0 ≤ last by omega), Bool.true_and]
          cases i with
          | zero =>
            rw [if_neg (by omega)]
            simp only [prevOf, okP, Bool.true_and]
            have q := ih 1 k (by omega) (by omega)
            simp only [prevOf] at q
            rw [List.getElem?_eq_getElem h', List.getElem_map] at q
            rw [w64 (by omega) (by omega)]
            exact q
          | succ j =>
            have hj : j < l.length := by omega
            have hj' : j < (l.map fun x => x.f0).length := by rw [List.length_map]; exact hj
            rw [if_pos (by omega), show wrap64 (((j + 1 : Nat) : Int) - 1) = (j : Int) by rw [w64 (by omega) (by omega)]; omega, if_pos (by omega), if_pos (by omega), rdC hj, cs, cs]
            have ep : prevOf (l.map fun x => x.f0) (j + 1) = some l[j].f0 := by simp only [prevOf]; rw [List.getElem?_eq_getElem hj', List.getElem_map]
            rw [ep, okP]
            by_cases e3 : l[j].f0 ≥ l[j + 1].f0
            · rw [if_pos e3, decide_eq_false (by omega)]; rfl
            · rw [if_neg e3, decide_eq_true (by omega), Bool.true_and]
              have q := ih (j + 1 + 1) k (by omega) (by omega)
              simp only [prevOf] at q
              rw [List.getElem?_eq_getElem h', List.getElem_map] at q
              rw [w64 (by omega) (by omega)]
              exact q
  unfold X.api_Count_41.f
  have q := go l.length 0 k (by omega) hk
  rw [List.drop_zero] at q
  unfold riseF
  rw [List.length_map]
  exact q
theorem any_cnt (l : List S61) (hl : l.length ≤ 9223372036854775807) (k : Nat) (hk : l.length + 1 < k) : X.api_Count_39.f k l () = some (l.any fun c => decide (c.f1 < 1)) := by
  have go : ∀ (n i k : Nat), i + n = l.length → n < k → ∃ r : Int, X.api_Count_58.l0 k l (l.length : Int) (i : Int) = some r ∧ decide (r ≥ 0) = (l.drop i).any fun c => decide (c.f1 < 1) := by
    intro n
    induction n with
    | zero =>
      intro i k hi hk; obtain ⟨k, rfl⟩ : ∃ j, k = j + 1 := ⟨k - 1, by omega⟩
      refine ⟨-1, ?_, ?_⟩
      · rw [X.api_Count_58.l0, if_neg (by omega)]
      · rw [List.drop_eq_nil_of_le (by omega)]; rfl
    | succ n ih =>
      intro i k hi hk; obtain ⟨k, rfl⟩ : ∃ j, k = j + 1 := ⟨k - 1, by omega⟩
      have h : i < l.length := by omega
      rw [X.api_Count_58.l0, if_pos (by omega), if_pos (by omega), if_pos (by omega), rdC h, List.drop_eq_getElem_cons h, List.any_cons]
      show ∃ r, (X.store_Right_2.f l[i].f0 l[i].f1).bind _ = some r ∧ _
      rw [bs (show X.store_Right_2.f l[i].f0 l[i].f1 = some (decide (l[i].f1 < 1)) from rfl)]
      by_cases e : l[i].f1 < 1
      · rw [decide_eq_true e, if_pos rfl]
        exact ⟨_, rfl, by rw [Bool.true_or]; exact decide_eq_true (by omega)⟩
      · rw [decide_eq_false e, if_neg (by decide), Bool.false_or]
        rw [w64 (by omega) (by omega), show (i : Int) + 1 = ((i + 1 : Nat) : Int) by omega]
        exact ih (i + 1) k (by omega) (by omega)
  unfold X.api_Count_39.f X.api_Count_58.f
  obtain ⟨r, h1, h2⟩ := go l.length 0 k (by omega) (by omega)
  rw [show ((0 : Nat) : Int) = 0 from rfl] at h1
  rw [bs h1, h2, List.drop_zero]
end Go.Proofs.Ytdkgkiemndlneaa
end

section
namespace Go.Proofs.Ytdkgkiemndlneaa.Pl
open Go.RowKit Go.Proofs.Ytdkgkiemndlneaa.Q Go.Proofs.Ytdkgkiemndlneaa.X Go.Proofs.YtdkgkiemndlneaaW.PrintWords Math
theorem u8_eq (a b : UInt8) : a = b ↔ a.toNat = b.toNat := ⟨fun h => h ▸ rfl, fun h => UInt8.toNat_inj.1 h⟩
theorem ib_mem : ∀ (l : List UInt8) (c : UInt8), 0 ≤ Lib.indexByte l c ↔ c ∈ l
  | [], c => by simp [Lib.indexByte]
  | b :: l, c => by
    show 0 ≤ (if b == c then (0 : Int) else if Lib.indexByte l c == -1 then -1 else Lib.indexByte l c + 1) ↔ _
    have ih := ib_mem l c
    have hge := Lib.indexByte_ge l c
    by_cases h : (b == c) = true
    · rw [if_pos h]; simp [beq_iff_eq.1 h]
    · rw [if_neg h]
      have h' : ¬ c = b := fun e => h (beq_iff_eq.2 e.symm)
      rw [List.mem_cons]
      by_cases k : (Lib.indexByte l c == -1) = true
      · rw [if_pos k]
        rw [beq_iff_eq.1 k] at ih
        constructor
        · omega
        · rintro (e | e)
          · exact absurd e h'
          · exact absurd (ih.2 e) (by omega)
      · rw [if_neg k]
        have : Lib.indexByte l c ≠ -1 := fun e => k (beq_iff_eq.2 e)
        constructor
        · intro _; right; exact ih.1 (by omega)
        · intro _; omega
theorem bt_nat (s : ByteArray) (i : Nat) (h : i < s.data.toList.length) : bt s (i : Int) = ((s.data.toList[i]'h).toNat : Int) := by
  have h' : i < s.size := by rw [sz]; exact h
  rw [← bt_at s (i : Int) (by simpa using h')]
  simp only [Int.toNat_natCast]
  congr 1
def odd (b : UInt8) : Bool := b == 47 || b == 0
theorem check_l0 (s : ByteArray) (hs : s.size ≤ 32) : ∀ (n i k : Nat), i + n = s.size → n < k → copyholdref06_Check.l0 k s (i : Int) = some (if (s.data.toList.drop i).any odd then 10 else 0) := by
  intro n
  induction n with
  | zero =>
    intro i k hi hk; obtain ⟨k, rfl⟩ : ∃ j, k = j + 1 := ⟨k - 1, by omega⟩
    rw [copyholdref06_Check.l0, if_neg (by omega), List.drop_eq_nil_of_le (by rw [← sz]; omega)]; rfl
  | succ n ih =>
    intro i k hi hk; obtain ⟨k, rfl⟩ : ∃ j, k = j + 1 := ⟨k - 1, by omega⟩
    have h : i < s.data.toList.length := by rw [← sz]; omega
    rw [copyholdref06_Check.l0, if_pos (by omega), if_pos (by omega), bt_nat s i h, List.drop_eq_getElem_cons h, List.any_cons]
    by_cases e1 : s.data.toList[i] = 47
    · rw [e1, if_pos (by decide)]; rfl
    · rw [if_neg (fun e => e1 ((u8_eq _ _).2 (by have : (47 : UInt8).toNat = 47 := rfl; omega)))]
      by_cases e2 : s.data.toList[i] = 0
      · rw [e2, if_pos (by decide)]; rfl
      · rw [if_neg (fun e => e2 ((u8_eq _ _).2 (by have : (0 : UInt8).toNat = 0 := rfl; omega))), w64 (by omega) (by omega), show (i : Int) + 1 = ((i + 1 : Nat) : Int) by omega, ih (i + 1) k (by omega) (by omega)]
        have : odd s.data.toList[i] = false := by unfold odd; simp only [Bool.or_eq_false_iff, beq_eq_false_iff_ne]; exact ⟨e1, e2⟩
        rw [this, Bool.false_or]
theorem bad_eq (s : ByteArray) : badName s = (s.toList == [46] || s.toList == [46, 46] || s.toList == [] || decide (32 < s.size) || s.data.toList.any odd) := by
  have h : (decide (0 ≤ Lib.indexByte s.data.toList 47) || decide (0 ≤ Lib.indexByte s.data.toList 0)) = s.data.toList.any odd := by
    rw [Bool.eq_iff_iff]
    simp only [Bool.or_eq_true, decide_eq_true_eq, ib_mem, List.any_eq_true, odd, beq_iff_eq]
    constructor
    · rintro (h | h)
      · exact ⟨_, h, .inl rfl⟩
      · exact ⟨_, h, .inr rfl⟩
    · rintro ⟨x, h, rfl | rfl⟩
      · exact .inl h
      · exact .inr h
  unfold badName
  rw [← h, Bool.or_assoc]
theorem ref_check (s : ByteArray) (k : Nat) (hk : 40 ≤ k) : copyholdref06_Check.f k s = some (if badName s then 10 else 0) := by
  obtain ⟨k, rfl⟩ : ∃ j, k = j + 1 := ⟨k - 1, by omega⟩
  have J : copyholdref06_Check.j0 (k + 1) s true = some 10 := by rw [copyholdref06_Check.j0, if_pos rfl]
  unfold copyholdref06_Check.f
  rw [bad_eq]
  by_cases h1 : (s.size : Int) < 1
  · rw [if_pos h1, J]
    have e : s.toList = [] := by rw [tl]; apply List.eq_nil_of_length_eq_zero; rw [← sz]; omega
    rw [e]; simp
  · rw [if_neg h1]
    have e1 : (s.toList == []) = false := by
      rw [tl]; cases h : s.data.toList with
      | nil => have := sz s; rw [h, List.length_nil] at this; omega
      | cons _ _ => rfl
    by_cases h2 : (s.size : Int) > 32
    · have h2' : 32 < s.size := by omega
      rw [if_pos h2, J, decide_eq_true h2']; simp
    · have h2' : ¬ 32 < s.size := by omega
      rw [if_neg h2, decide_eq_false h2']
      by_cases h3 : s.toList = [46]
      · rw [if_pos h3, J, h3]; simp
      · rw [if_neg h3]
        have e3 : (s.toList == [46]) = false := by simpa using h3
        rw [copyholdref06_Check.j0, e1, e3]
        cases h4 : (s.toList == ([46, 46] : List UInt8)) with
        | true => rw [if_pos rfl]; simp
        | false =>
          rw [if_neg (by decide), show (0 : Int) = ((0 : Nat) : Int) from rfl, check_l0 s (by omega) s.size 0 k (by omega) (by omega)]
          simp
theorem name_check (s : ByteArray) : name_Check.f s = some (if badName s then 10 else 0) := rfl
abbrev E := S91
def lt (a b : ByteArray) : Bool := Op.bytesLess a.toList b.toList
def okAt (l : List E) (i : Nat) : Bool := !badName (l.getD i z91).f0 && decide (1 ≤ (l.getD i z91).f1) && (decide (i = 0) || lt (l.getD (i - 1) z91).f0 (l.getD i z91).f0)
def okFrom (l : List E) : Nat → Nat → Bool
  | 0, _ => true
  | n + 1, i => okAt l i && okFrom l n (i + 1)
def rightB (l : List E) : Bool := decide (l.length ≤ 256) && okFrom l l.length 0
theorem rd_eq (l : List E) (i : Nat) : rd_T91 l (i : Int) = l.getD i z91 := by unfold rd_T91; rw [Int.toNat_natCast]
theorem right_l0 (l : List E) (hl : l.length ≤ 100000) : ∀ (n i k : Nat), i + n = l.length → n + 40 < k → copyholdref06_Right.l0 k l (i : Int) = some (okFrom l n i) := by
  intro n
  induction n with
  | zero => intro i k hi hk; obtain ⟨k, rfl⟩ : ∃ j, k = j + 1 := ⟨k - 1, by omega⟩; rw [copyholdref06_Right.l0, if_neg (by omega)]; rfl
  | succ n ih =>
    intro i k hi hk; obtain ⟨k, rfl⟩ : ∃ j, k = j + 1 := ⟨k - 1, by omega⟩
    rw [copyholdref06_Right.l0, if_pos (by omega), if_pos (by omega), rd_eq, bs (ref_check _ k (by omega))]
    show _ = some (okAt l i && okFrom l n (i + 1))
    unfold okAt
    generalize hx : l.getD i z91 = x
    cases hb : badName x.f0 with
    | true => rw [if_pos rfl, if_neg (by decide)]; rfl
    | false =>
      rw [show (if (false = true) then (10 : Int) else 0) = 0 from rfl, if_pos rfl]
      by_cases h1 : x.f1 < 1
      · rw [if_pos h1, decide_eq_false (by omega)]; rfl
      · rw [if_neg h1, decide_eq_true (show 1 ≤ x.f1 by omega)]
        have IH := ih (i + 1) k (by omega) (by omega)
        have e1 : ((i + 1 : Nat) : Int) = (i : Int) + 1 := by omega
        by_cases h2 : (i : Int) > 0
        · have e2 : (i : Int) - 1 = ((i - 1 : Nat) : Int) := by omega
          rw [if_pos h2, w64 (n := (i : Int) - 1) (by omega) (by omega), w64 (n := (i : Int) + 1) (by omega) (by omega), e2, if_pos (by omega), if_pos (by omega), rd_eq, ← e1, IH, decide_eq_false (show ¬ i = 0 by omega)]
          show (if lt _ _ = true then _ else _) = _
          cases lt (l.getD (i - 1) z91).f0 x.f0 <;> rfl
        · have e3 : i = 0 := by omega
          rw [if_neg h2, w64 (n := (i : Int) + 1) (by omega) (by omega), ← e1, IH, decide_eq_true e3]; rfl
theorem ref_right (l : List E) (k : Nat) (hk : 400 ≤ k) : copyholdref06_Right.f k l = some (rightB l) := by
  unfold copyholdref06_Right.f rightB
  by_cases h : (l.length : Int) > 256
  · rw [if_pos h, decide_eq_false (show ¬ l.length ≤ 256 by omega)]; rfl
  · rw [if_neg h, decide_eq_true (show l.length ≤ 256 by omega), show (0 : Int) = ((0 : Nat) : Int) from rfl, right_l0 l (by omega) l.length 0 k (by omega) (by omega)]; rfl
theorem nright_l0 (l : List E) (hl : l.length ≤ 100000) : ∀ (n i k : Nat), i + n = l.length → n + 40 < k → name_Right.l0 k l l (l.length : Int) (i : Int) = some (okFrom l n i && decide (l.length ≤ 256)) := by
  intro n
  induction n with
  | zero => intro i k hi hk; obtain ⟨k, rfl⟩ : ∃ j, k = j + 1 := ⟨k - 1, by omega⟩; rw [name_Right.l0, if_neg (by omega)]; simp [okFrom]; omega
  | succ n ih =>
    intro i k hi hk; obtain ⟨k, rfl⟩ : ∃ j, k = j + 1 := ⟨k - 1, by omega⟩
    rw [name_Right.l0, if_pos (by omega), if_pos (by omega), if_pos (by omega), rd_eq, bs (name_check _)]
    show _ = some ((okAt l i && okFrom l n (i + 1)) && decide (l.length ≤ 256))
    unfold okAt
    generalize hx : l.getD i z91 = x
    cases hb : badName x.f0 with
    | true => rw [if_pos rfl, if_neg (by decide)]; rfl
    | false =>
      rw [show (if (false = true) then (10 : Int) else 0) = 0 from rfl, if_pos rfl]
      by_cases h1 : x.f1 < 1
      · rw [if_pos h1, decide_eq_false (by omega)]; rfl
      · rw [if_neg h1, decide_eq_true (show 1 ≤ x.f1 by omega)]
        have IH := ih (i + 1) k (by omega) (by omega)
        have e1 : ((i + 1 : Nat) : Int) = (i : Int) + 1 := by omega
        by_cases h2 : (i : Int) > 0
        · have e2 : (i : Int) - 1 = ((i - 1 : Nat) : Int) := by omega
          rw [if_pos h2, w64 (n := (i : Int) - 1) (by omega) (by omega), w64 (n := (i : Int) + 1) (by omega) (by omega), e2, if_pos (by omega), if_pos (by omega), rd_eq, ← e1, IH, decide_eq_false (show ¬ i = 0 by omega)]
          show (if lt _ _ = true then _ else _) = _
          cases lt (l.getD (i - 1) z91).f0 x.f0 <;> rfl
        · have e3 : i = 0 := by omega
          rw [if_neg h2, w64 (n := (i : Int) + 1) (by omega) (by omega), ← e1, IH, decide_eq_true e3]; rfl
theorem name_right (l : List E) (hl : l.length ≤ 10000) (k : Nat) (hk : 20000 ≤ k) : name_Right.f k l = some (rightB l) := by
  unfold name_Right.f rightB
  rw [show (0 : Int) = ((0 : Nat) : Int) from rfl, nright_l0 l (by omega) l.length 0 k (by omega) (by omega), Bool.and_comm]
def eqE (a b : E) : Bool := (a.f0.toList == b.f0.toList) && (a.f1 == b.f1)
def eqEs : List E → List E → Bool
  | [], [] => true
  | x :: l, y :: m => eqE x y && eqEs l m
  | _, _ => false
theorem eqE_iff (a b : E) : eqE a b = true ↔ a = b := by
  unfold eqE
  rw [Bool.and_eq_true, beq_iff_eq, beq_iff_eq, toLe]
  exact ⟨fun h => by cases a; cases b; simp_all, fun h => by rw [h]; exact ⟨rfl, rfl⟩⟩
theorem eqEs_iff : ∀ a b : List E, eqEs a b = true ↔ a = b
  | [], [] => by simp [eqEs]
  | [], _ :: _ => by simp [eqEs]
  | _ :: _, [] => by simp [eqEs]
  | x :: l, y :: m => by rw [eqEs, Bool.and_eq_true, eqE_iff, eqEs_iff l m, List.cons.injEq]
def sameN (a b : S38) : Bool := (a.f0 == b.f0) && ((a.f1 == b.f1) && ((a.f2 == b.f2) && ((a.f3.toList == b.f3.toList) && eqEs a.f4 b.f4)))
theorem sameN_iff (a b : S38) : sameN a b = true ↔ a = b := by
  unfold sameN
  simp only [Bool.and_eq_true, beq_iff_eq, toLe, eqEs_iff]
  exact ⟨fun h => by cases a; cases b; simp_all, fun h => by rw [h]; exact ⟨rfl, rfl, rfl, rfl, rfl⟩⟩
theorem eqEs_len : ∀ a b : List E, a.length ≠ b.length → eqEs a b = false := fun a b h => by
  cases e : eqEs a b
  · rfl
  · exact absurd (congrArg List.length ((eqEs_iff a b).1 e)) h
theorem ref_same (a b : List E) (hl : a.length ≤ 9223372036854775807) (k : Nat) (hk : a.length < k) : copyholdref06_Same.f k a b = some (eqEs a b) := by
  unfold copyholdref06_Same.f
  by_cases h : a.length = b.length
  · have go : ∀ (n i k : Nat), i + n = a.length → n < k → copyholdref06_Same.l0 k a b (i : Int) = some (eqEs (a.drop i) (b.drop i)) := by
      intro n
      induction n with
      | zero =>
        intro i k hi hk; obtain ⟨k, rfl⟩ : ∃ j, k = j + 1 := ⟨k - 1, by omega⟩
        rw [copyholdref06_Same.l0, if_neg (by omega), List.drop_eq_nil_of_le (by omega), List.drop_eq_nil_of_le (by omega)]; rfl
      | succ n ih =>
        intro i k hi hk; obtain ⟨k, rfl⟩ : ∃ j, k = j + 1 := ⟨k - 1, by omega⟩
        have ha : i < a.length := by omega
        have hb : i < b.length := by omega
        rw [copyholdref06_Same.l0, if_pos (by omega), if_pos (by omega), if_pos (by omega), rdE ha, rdE hb, List.drop_eq_getElem_cons ha, List.drop_eq_getElem_cons hb, eqEs]
        have IH := ih (i + 1) k (by omega) (by omega)
        rw [w64 (by omega) (by omega), show (i : Int) + 1 = ((i + 1 : Nat) : Int) by omega, IH]
        unfold eqE
        cases (a[i].f0.toList == b[i].f0.toList) <;> cases (a[i].f1 == b[i].f1) <;> rfl
    rw [if_pos (by omega), show (0 : Int) = ((0 : Nat) : Int) from rfl, go a.length 0 k (by omega) hk]; rfl
  · rw [if_neg (by omega), eqEs_len a b h]
theorem go_same (a b : List E) (hl : a.length ≤ 9223372036854775807) (k : Nat) (hk : a.length < k) : api_Entry.f k a b = some (eqEs a b) := by
  unfold api_Entry.f
  by_cases h : a.length = b.length
  · have go : ∀ (n i k : Nat), i + n = a.length → n < k → api_Entry.l0 k a b (a.length : Int) (i : Int) = some (eqEs (a.drop i) (b.drop i)) := by
      intro n
      induction n with
      | zero =>
        intro i k hi hk; obtain ⟨k, rfl⟩ : ∃ j, k = j + 1 := ⟨k - 1, by omega⟩
        rw [api_Entry.l0, if_neg (by omega), List.drop_eq_nil_of_le (by omega), List.drop_eq_nil_of_le (by omega)]; rfl
      | succ n ih =>
        intro i k hi hk; obtain ⟨k, rfl⟩ : ∃ j, k = j + 1 := ⟨k - 1, by omega⟩
        have ha : i < a.length := by omega
        have hb : i < b.length := by omega
        rw [api_Entry.l0, if_pos (by omega), if_pos (by omega), if_pos (by omega), if_pos (by omega), rdE ha, rdE hb, List.drop_eq_getElem_cons ha, List.drop_eq_getElem_cons hb, eqEs]
        have IH := ih (i + 1) k (by omega) (by omega)
        rw [w64 (by omega) (by omega), show (i : Int) + 1 = ((i + 1 : Nat) : Int) by omega, IH]
        unfold eqE
        cases (a[i].f0.toList == b[i].f0.toList) <;> cases (a[i].f1 == b[i].f1) <;> rfl
    rw [if_pos (by omega), show (0 : Int) = ((0 : Nat) : Int) from rfl, go a.length 0 k (by omega) hk]; rfl
  · rw [if_neg (by omega), eqEs_len a b h]
theorem ref_sameN (a b : S38) (hl : a.f4.length ≤ 9223372036854775807) (k : Nat) (hk : a.f4.length < k) : copyholdref07_Same.f k a.f0 a.f1 a.f2 a.f3 a.f4 b.f0 b.f1 b.f2 b.f3 b.f4 = some (sameN a b) := by
  unfold copyholdref07_Same.f sameN
  rw [bs (ref_same a.f4 b.f4 hl k hk)]
  cases eqEs a.f4 b.f4
  · rw [if_neg (by decide)]; simp
  · rw [if_pos rfl]
    by_cases h0 : a.f0 = b.f0
    · by_cases h1 : a.f1 = b.f1
      · by_cases h2 : a.f2 = b.f2
        · rw [if_pos h0, if_pos h1, if_pos h2]; simp [h0, h1, h2]
        · rw [if_pos h0, if_pos h1, if_neg h2]; simp [h2]
      · rw [if_pos h0, if_neg h1]; simp [h1]
    · rw [if_neg h0]; simp [h0]
theorem go_sameN (a b : S38) (hl : a.f4.length ≤ 9223372036854775807) (k : Nat) (hk : a.f4.length < k) : node_Same.f k a.f0 a.f1 a.f2 a.f3 a.f4 b.f0 b.f1 b.f2 b.f3 b.f4 = some (sameN a b) := by
  unfold node_Same.f sameN
  by_cases h0 : a.f0 = b.f0
  · by_cases h1 : a.f1 = b.f1
    · by_cases h2 : a.f2 = b.f2
      · by_cases h3 : a.f3.toList = b.f3.toList
        · rw [if_pos h0, if_pos h1, if_pos h2, if_pos h3, bs (go_same a.f4 b.f4 hl k hk)]; simp [h0, h1, h2, h3]
        · rw [if_pos h0, if_pos h1, if_pos h2, if_neg h3]; simp [h3]
      · rw [if_pos h0, if_pos h1, if_neg h2]; simp [h2]
    · rw [if_pos h0, if_neg h1]; simp [h1]
  · rw [if_neg h0]; simp [h0]
def nodeR (n : S38) : Bool :=
  decide (1 ≤ n.f0) && (decide (1 ≤ n.f1) && (decide (n.f1 ≤ 3) && (decide (0 ≤ n.f2) && (decide (n.f2 ≤ 64) && (decide (n.f3.size ≤ 4096) && (if n.f1 = 2 then (n.f3.toList == []) && rightB n.f4 else decide (n.f4.length = 0)))))))
theorem rightB_nil : rightB [] = true := rfl
theorem ref_nodeR (n : S38) (k : Nat) (hk : 400 ≤ k) : copyholdref07_Right.f k n.f0 n.f1 n.f2 n.f3 n.f4 = some (nodeR n) := by
  unfold copyholdref07_Right.f nodeR
  by_cases h1 : n.f0 < 1
  · rw [if_pos h1, decide_eq_false (show ¬ 1 ≤ n.f0 by omega)]; rfl
  · rw [if_neg h1, decide_eq_true (show 1 ≤ n.f0 by omega), Bool.true_and]
    by_cases h2 : n.f1 < 1
    · rw [if_pos h2, decide_eq_false (show ¬ 1 ≤ n.f1 by omega)]; rfl
    · rw [if_neg h2, decide_eq_true (show 1 ≤ n.f1 by omega), Bool.true_and]
      by_cases h3 : n.f1 > 3
      · rw [if_pos h3, decide_eq_false (show ¬ n.f1 ≤ 3 by omega)]; rfl
      · rw [if_neg h3, decide_eq_true (show n.f1 ≤ 3 by omega), Bool.true_and]
        by_cases h4 : n.f2 < 0
        · rw [if_pos h4, decide_eq_false (show ¬ 0 ≤ n.f2 by omega)]; rfl
        · rw [if_neg h4, decide_eq_true (show 0 ≤ n.f2 by omega), Bool.true_and]
          by_cases h5 : n.f2 > 64
          · rw [if_pos h5, decide_eq_false (show ¬ n.f2 ≤ 64 by omega)]; rfl
          · rw [if_neg h5, decide_eq_true (show n.f2 ≤ 64 by omega), Bool.true_and]
            by_cases h6 : (n.f3.size : Int) > 4096
            · rw [if_pos h6, decide_eq_false (show ¬ n.f3.size ≤ 4096 by omega)]; rfl
            · rw [if_neg h6, decide_eq_true (show n.f3.size ≤ 4096 by omega), Bool.true_and, bs (ref_right n.f4 k hk)]
              by_cases h7 : n.f1 = 2
              · rw [if_pos h7]
                cases rightB n.f4
                · rw [if_neg (by decide), if_pos h7, Bool.and_false]
                · rw [if_pos rfl, if_pos h7, Bool.and_true]
                  by_cases h8 : n.f3.toList = []
                  · rw [if_pos h8, h8]; rfl
                  · rw [if_neg h8]; congr 1; exact (beq_eq_false_iff_ne.2 h8).symm
              · rw [if_neg h7]
                by_cases h8 : n.f4.length = 0
                · rw [List.eq_nil_of_length_eq_zero h8, rightB_nil, if_pos rfl, if_neg h7]; rfl
                · cases rightB n.f4
                  · rw [if_neg (by decide), decide_eq_false h8, if_neg h7]
                  · rw [if_pos rfl, if_neg h7, decide_eq_false h8]; congr 1; exact beq_eq_false_iff_ne.2 (by omega)
theorem go_nodeR (n : S38) (hl : n.f4.length ≤ 10000) (k : Nat) (hk : 20001 ≤ k) : node_Right.f k n.f0 n.f1 n.f2 n.f3 n.f4 = some (nodeR n) := by
  obtain ⟨k, rfl⟩ : ∃ j, k = j + 1 := ⟨k - 1, by omega⟩
  have J : ∀ a b c d e, node_Right.j0 (k + 1) true a b c d e = some false := fun a b c d e => by rw [node_Right.j0, if_pos rfl]
  unfold node_Right.f nodeR
  by_cases h1 : n.f0 < 1
  · rw [if_pos h1, J, decide_eq_false (show ¬ 1 ≤ n.f0 by omega)]; rfl
  · rw [if_neg h1, decide_eq_true (show 1 ≤ n.f0 by omega), Bool.true_and]
    by_cases h2 : n.f1 < 1
    · rw [if_pos h2, J, decide_eq_false (show ¬ 1 ≤ n.f1 by omega)]; rfl
    · rw [if_neg h2, decide_eq_true (show 1 ≤ n.f1 by omega), Bool.true_and]
      by_cases h3 : n.f1 > 3
      · rw [if_pos h3, J, decide_eq_false (show ¬ n.f1 ≤ 3 by omega)]; rfl
      · rw [if_neg h3, decide_eq_true (show n.f1 ≤ 3 by omega), Bool.true_and]
        by_cases h4 : n.f2 < 0
        · rw [if_pos h4, J, decide_eq_false (show ¬ 0 ≤ n.f2 by omega)]; rfl
        · rw [if_neg h4, decide_eq_true (show 0 ≤ n.f2 by omega), Bool.true_and]
          by_cases h5 : n.f2 > 64
          · rw [if_pos h5, J, decide_eq_false (show ¬ n.f2 ≤ 64 by omega)]; rfl
          · rw [if_neg h5, decide_eq_true (show n.f2 ≤ 64 by omega), Bool.true_and]
            by_cases h6 : (n.f3.size : Int) > 4096
            · rw [decide_eq_true h6, J, decide_eq_false (show ¬ n.f3.size ≤ 4096 by omega)]; rfl
            · rw [decide_eq_false h6, decide_eq_true (show n.f3.size ≤ 4096 by omega), Bool.true_and, node_Right.j0, if_neg (by decide)]
              by_cases h7 : n.f1 = 2
              · rw [if_pos h7, if_pos h7]
                by_cases h8 : n.f3.toList = []
                · rw [if_pos h8, bs (name_right n.f4 hl k (by omega)), h8]; simp
                · rw [if_neg h8]; congr 1; rw [beq_eq_false_iff_ne.2 h8]; rfl
              · rw [if_neg h7, if_neg h7]
                congr 1
                by_cases h8 : n.f4.length = 0
                · rw [decide_eq_true h8, h8]; rfl
                · rw [decide_eq_false h8]; exact beq_eq_false_iff_ne.2 (by omega)
def ownB (v : S58) (ino : Int) : Bool := if v.f1 = true then sameN v.f2 z38 else decide (v.f2.f0 = ino) && nodeR v.f2
theorem go_ownB (v : S58) (ino : Int) (hl : v.f2.f4.length ≤ 10000) (k : Nat) (hk : 20001 ≤ k) : store_own.f k v.f0 v.f1 v.f2.f0 v.f2.f1 v.f2.f2 v.f2.f3 v.f2.f4 ino = some (ownB v ino) := by
  unfold store_own.f ownB
  by_cases h : v.f1 = true
  · rw [if_pos h, if_pos h]
    exact bs (go_sameN v.f2 z38 (by omega) k (by omega))
  · rw [if_neg h, if_neg h]
    by_cases h2 : v.f2.f0 = ino
    · rw [if_pos h2, decide_eq_true h2, Bool.true_and]; exact bs (go_nodeR v.f2 hl k hk)
    · rw [if_neg h2, decide_eq_false h2]; rfl
def chainB (c : S55) (last : Int) : Bool := decide (1 ≤ c.f0) && (riseF (c.f1.map fun v => v.f0) last && c.f1.all fun v => ownB v c.f0)
def chainsGo (last : Int) : Option Int → List S55 → Bool
  | _, [] => true
  | p, c :: r => chainB c last && (okP p c.f0 && chainsGo last (some c.f0) r)
def storeR (l0 : List S55) (l1 : List S61) (st : Int) : Bool := chainsGo st none l0 && (decide (1 ≤ st) && (!(l1.any fun c => decide (c.f1 < 1)) && riseF (l1.map fun c => c.f0) st))
def smallC (c : S55) : Bool := decide (c.f1.length ≤ 10000) && c.f1.all fun v => decide (v.f2.f4.length ≤ 10000)
def smallS (l0 : List S55) (l1 : List S61) : Bool := decide (l0.length ≤ 10000) && (decide (l1.length ≤ 10000) && l0.all smallC)
end Go.Proofs.Ytdkgkiemndlneaa.Pl
end

section
namespace Go.Proofs.Ytdkgkiemndlneaa
open Go.RowKit Go.Proofs.Ytdkgkiemndlneaa.Q Go.Proofs.YtdkgkiemndlneaaW.PrintWords Go.Proofs.YtdkgkiemndlneaaW.PrintLast Go.Proofs.YtdkgkiemndlneaaW.PrintMore Math Pl X
def verOk (ino last : Int) (p : Option Int) (v : S58) : Bool := decide (1 ≤ v.f0) && (decide (v.f0 ≤ last) && (okP p v.f0 && ownB v ino))
def versGo (ino last : Int) : Option Int → List S58 → Bool
  | _, [] => true
  | p, v :: r => verOk ino last p v && versGo ino last (some v.f0) r
theorem versGo_eq (ino last : Int) : ∀ (p : Option Int) (l : List S58), versGo ino last p l = (riseGo last p (l.map fun v => v.f0) && l.all fun v => ownB v ino)
  | _, [] => rfl
  | p, v :: r => by
    rw [versGo, versGo_eq ino last (some v.f0) r, List.map_cons, riseGo, List.all_cons, verOk]
    generalize decide (1 ≤ v.f0) = a; generalize decide (v.f0 ≤ last) = b; generalize okP p v.f0 = d; generalize ownB v ino = o; generalize riseGo last (some v.f0) (List.map (fun v => v.f0) r) = s; generalize (r.all fun v => ownB v ino) = t
    revert a b d o s t; decide
theorem chainB_eq (c : S55) (last : Int) : chainB c last = (decide (1 ≤ c.f0) && (decide (0 < c.f1.length) && versGo c.f0 last none c.f1)) := by
  unfold chainB riseF
  rw [versGo_eq, List.length_map]
  generalize decide (1 ≤ c.f0) = a; generalize decide (0 < c.f1.length) = b; generalize riseGo last none (c.f1.map fun v => v.f0) = d; generalize (c.f1.all fun v => ownB v c.f0) = o
  revert a b d o; decide
set_option maxHeartbeats 8000000 in
set_option maxRecDepth 1000000 in
theorem chain_calls (A1 : Option Addr) (c1 : Nat) (c : S55) (last : Int) (w : World) (hr : Kd.C k58 w A1 c.f1.length c.f1) (hsm : smallC c = true) :
    Calls Try.prog 28 #[.agg #[.int .i64 c.f0, .slice A1 c.f1.length c1], .int .i64 last] w fun e w' => e = .returned (.bool (chainB c last)) ∧ Below w.heap.size w w' := by
  obtain ⟨W1, hW1⟩ : ∃ W1, W1 = w.alloc (.cells #[.int .i64 c.f0, .slice A1 c.f1.length c1] 55) := ⟨_, rfl⟩
  have b1 : Below w.heap.size w W1 := by rw [hW1]; exact (Below.refl _ _).alloc (Nat.le_refl _) _
  have hbx : W1.heap[w.heap.size]? = some (.cells #[.int .i64 c.f0, .slice A1 c.f1.length c1] 55 (0, 0)) := by rw [hW1]; exact heap_alloc_new w _
  have hsl : c.f1.length ≤ 10000 ∧ ∀ v ∈ c.f1, v.f2.f4.length ≤ 10000 := by
    unfold smallC at hsm
    rw [Bool.and_eq_true, decide_eq_true_eq, List.all_eq_true] at hsm
    exact ⟨hsm.1, fun v hv => by have := hsm.2 v hv; simpa using this⟩
  obtain ⟨F, hF⟩ : ∃ F, F = chainB c last := ⟨_, rfl⟩
  rw [← hF]
  rw [chainB_eq] at hF
  obtain ⟨G, hG⟩ : ∃ G, G = versGo c.f0 last (prevOf (c.f1.map fun v => v.f0) 0) (c.f1.drop 0) := ⟨_, rfl⟩
  have hG' : G = versGo c.f0 last none c.f1 := hG
  rw [← hG'] at hF
  have HW1 := Lib.hid hW1; have HB1 := Lib.hid b1; have HX := Lib.hid hbx; have HSL := Lib.hid hsl; have HF := Lib.hid hF; have HG := Lib.hid hG; have HR := Lib.hid hr
  clear hW1 b1 hbx hsl hsm hF hG hG' hr
  by_cases h1 : c.f0 < 1
  · have q1 : decide (c.f0 < 1) = true := decide_eq_true h1
    have HE : Hid (F = false) := Lib.hid (by rw [HF.out, decide_eq_false (by omega)]; rfl)
    clear h1
    go_enter Try.func28, Try.ntmps28
    go_wp2_with fail
    go_ret
    exact ⟨by rw [HE.out]; rfl, by rw [← HW1.out]; exact HB1.out⟩
  have q1 : decide (c.f0 < 1) = false := decide_eq_false h1
  by_cases h2 : c.f1.length < 1
  · have q2 : decide (c.f1.length < 1) = true := decide_eq_true h2
    have q2i : decide ((c.f1.length : Int) < 1) = true := decide_eq_true (by omega)
    have HE : Hid (F = false) := Lib.hid (by rw [HF.out, decide_eq_true (show 1 ≤ c.f0 by omega), decide_eq_false (show ¬ 0 < c.f1.length by omega)]; rfl)
    clear h1 h2
    go_enter Try.func28, Try.ntmps28
    go_wp2_with fail
    go_ret
    exact ⟨by rw [HE.out]; rfl, by rw [← HW1.out]; exact HB1.out⟩
  have q2 : decide (c.f1.length < 1) = false := decide_eq_false h2
  have q2i : decide ((c.f1.length : Int) < 1) = false := decide_eq_false (by omega)
  have HE : Hid (F = G) := Lib.hid (by rw [HF.out, decide_eq_true (show 1 ≤ c.f0 by omega), decide_eq_true (show 0 < c.f1.length by omega)]; rfl)
  clear h1 h2 HF
  go_enter Try.func28, Try.ntmps28
  go_wp2_with fail
  rw [← HW1.out]
  go_loopg [5] (c.f1.length + 1) (fun gk v5 wx => ∃ (i : Nat), v5 = .int .i64 (i : Int) ∧ Hid (i ≤ c.f1.length ∧ c.f1.length - i < gk ∧ G = versGo c.f0 last (prevOf (c.f1.map fun v => v.f0) i) (c.f1.drop i)) ∧ Hid (Below W1.heap.size W1 wx))
  case atStart => exact ⟨0, rfl, Lib.hid ⟨by omega, by omega, HG.out⟩, Lib.hid (Below.refl _ _)⟩
  case round =>
    obtain ⟨i, rfl, HI, HB⟩ := hrel
    obtain ⟨hi1, hi2, hi3⟩ := HI.out
    have hX3 := blk_below HX.out HB.out
    have z0 : wr.cell? ⟨w.heap.size, 0, none⟩ = some (.int .i64 c.f0) := (blk_cell hX3 0).trans rfl
    have z1 : wr.cell? ⟨w.heap.size, 1, none⟩ = some (.slice A1 c.f1.length c1) := (blk_cell hX3 1).trans rfl
    have HX3 := Lib.hid hX3
    have HRX := Lib.hid (Kd.C_below HR.out (below_then HB1.out HB1.out.size HB.out))
    clear HI hX3
    obtain ⟨g, rfl⟩ : ∃ g, gk = g + 1 := ⟨gk - 1, by omega⟩
    by_cases c1_ : i < c.f1.length
    · have q3 : decide (i < c.f1.length) = true := decide_eq_true c1_
      have q3i : decide ((i : Int) < (c.f1.length : Int)) = true := decide_eq_true (by omega)
      obtain ⟨ad, A6, c6, e0, x0, x1, x2, x3, x4, x5, x6, hl6, hi6⟩ := at_T58 HRX.out (i : Int) (by omega) (by omega)
      cases e0
      rw [Int.toNat_natCast] at x0 x1 x2 x3 x4 x5 x6
      have hX : rd_T58 c.f1 (i : Int) = c.f1[i] := rdV c1_
      have hm : (rd_T58 c.f1 (i : Int)) ∈ c.f1 := by rw [hX]; exact List.getElem_mem _
      have hf4 := HSL.out.2 _ hm
      have hstep : G = (verOk c.f0 last (prevOf (c.f1.map fun v => v.f0) i) (rd_T58 c.f1 (i : Int)) && versGo c.f0 last (prevOf (c.f1.map fun v => v.f0) (i + 1)) (c.f1.drop (i + 1))) := by
        rw [hi3, List.drop_eq_getElem_cons c1_, versGo, hX]
        simp only [prevOf]
        rw [List.getElem?_eq_getElem (by rw [List.length_map]; exact c1_), List.getElem_map]
      have hprev : 0 < i → prevOf (c.f1.map fun v => v.f0) i = some (rd_T58 c.f1 ((i : Int) - 1)).f0 := by
        intro h0
        obtain ⟨j, rfl⟩ : ∃ j, i = j + 1 := ⟨i - 1, by omega⟩
        simp only [prevOf]
        rw [List.getElem?_eq_getElem (by rw [List.length_map]; omega), List.getElem_map, show ((j + 1 : Nat) : Int) - 1 = (j : Int) by omega, rdV (by omega)]
      have hw1 : wrap64 ((i : Int) + 1) = ((i + 1 : Nat) : Int) := by rw [w64 (by have := HSL.out.1; omega) (by have := HSL.out.1; omega)]; omega
      have p3 : (0 : Int) ≤ (i : Int) := by omega
      have p3e := eq_true p3
      have q3e := eq_true (show (i : Int) < (c.f1.length : Int) by omega)
      generalize rd_T58 c.f1 (i : Int) = X at *
      have HRT := Lib.hid (fun (W : World) (hb : Below wr.heap.size wr W) => copyholdref07_Right.calls 400 X.f2.f0 X.f2.f1 X.f2.f2 X.f2.f3 A6 c6 X.f2.f4 (nodeR X.f2) W (Kd.C_below hi6 hb) hl6 (ref_nodeR X.f2 400 (Nat.le_refl _)))
      have HSM := Lib.hid (fun (W : World) (hb : Below wr.heap.size wr W) => copyholdref07_Same.calls 10001 X.f2.f0 X.f2.f1 X.f2.f2 X.f2.f3 A6 c6 X.f2.f4 0 0 0 ⟨#[]⟩ none 0 [] (sameN X.f2 z38) W (Kd.C_below hi6 hb) hl6 (Kd.C_nil _ _) (Nat.le_refl _) (ref_sameN X.f2 z38 (by omega) 10001 (by omega)))
      have HST := Lib.hid hstep; have HPV := Lib.hid hprev; have HW := Lib.hid hw1; have HI2 := Lib.hid hi2
      clear hX hm hstep hprev hw1 hi3 hi6 hf4 hi1 hi2
      go_wp2_with fail
      refine (HRT.out _ ((Below.refl _ _).alloc (Nat.le_refl _) _)).mono ?_
      rintro e w3 ⟨rfl, hb3⟩
      have hV3 : w3.heap[wr.heap.size]? = some (.cells #[.int .i64 X.f0, .bool X.f1, .int .i64 X.f2.f0, .int .i64 X.f2.f1, .int .i64 X.f2.f2, .string X.f2.f3, .slice A6 X.f2.f4.length c6] 58 (0, 0)) := blk_below (heap_alloc_new wr _) hb3
      have hb13 : Below wr.heap.size wr w3 := below_then ((Below.refl _ _).alloc (Nat.le_refl _) _) (by rw [World.size_alloc]; omega) hb3
      have hX4 := blk_below HX3.out hb13
      clear x0 x1 x2 x3 x4 x5 x6 z0 z1 hb3
      have v0 : w3.cell? ⟨wr.heap.size, 0, none⟩ = some (.int .i64 X.f0) := (blk_cell hV3 0).trans rfl
      have v1 : w3.cell? ⟨wr.heap.size, 1, none⟩ = some (.bool X.f1) := (blk_cell hV3 1).trans rfl
      have v2 : w3.cell? ⟨wr.heap.size, 2, none⟩ = some (.int .i64 X.f2.f0) := (blk_cell hV3 2).trans rfl
      have v3 : w3.cell? ⟨wr.heap.size, 3, none⟩ = some (.int .i64 X.f2.f1) := (blk_cell hV3 3).trans rfl
      have v4 : w3.cell? ⟨wr.heap.size, 4, none⟩ = some (.int .i64 X.f2.f2) := (blk_cell hV3 4).trans rfl
      have v5 : w3.cell? ⟨wr.heap.size, 5, none⟩ = some (.string X.f2.f3) := (blk_cell hV3 5).trans rfl
      have v6 : w3.cell? ⟨wr.heap.size, 6, none⟩ = some (.slice A6 X.f2.f4.length c6) := (blk_cell hV3 6).trans rfl
      have z0 : w3.cell? ⟨w.heap.size, 0, none⟩ = some (.int .i64 c.f0) := (blk_cell hX4 0).trans rfl
      have z1 : w3.cell? ⟨w.heap.size, 1, none⟩ = some (.slice (some ad) c.f1.length c1) := (blk_cell hX4 1).trans rfl
      have HV3 := Lib.hid hV3; have HX4 := Lib.hid hX4; have HB3 := Lib.hid hb13
      have HOW : Hid (ownB X c.f0 = if X.f1 = true then sameN X.f2 z38 else decide (X.f2.f0 = c.f0) && nodeR X.f2) := Lib.hid rfl
      clear hV3 hX4 hb13 HRT
      generalize nodeR X.f2 = nr at *
      have hir : (nr = false ∧ Hid (ownB X c.f0 = if X.f1 = true then sameN X.f2 z38 else false)) ∨ (nr = true ∧ (X.f2.f0 == c.f0) = false ∧ Hid (ownB X c.f0 = if X.f1 = true then sameN X.f2 z38 else false)) ∨ (nr = true ∧ (X.f2.f0 == c.f0) = true ∧ Hid (ownB X c.f0 = if X.f1 = true then sameN X.f2 z38 else true)) := by
        cases nr
        · exact .inl ⟨rfl, Lib.hid (by rw [HOW.out, Bool.and_false])⟩
        · by_cases h : X.f2.f0 = c.f0
          · exact .inr (.inr ⟨rfl, beq_iff_eq.2 h, Lib.hid (by rw [HOW.out, decide_eq_true h]; rfl)⟩)
          · exact .inr (.inl ⟨rfl, beq_eq_false_iff_ne.2 h, Lib.hid (by rw [HOW.out, decide_eq_false h]; rfl)⟩)
      clear HOW
      rcases hir with ⟨rfl, HOW⟩ | ⟨rfl, hino, HOW⟩ | ⟨rfl, hino, HOW⟩
      all_goals
        go_wp2_with fail
        refine (HSM.out _ HB3.out).mono ?_
        rintro e w4 ⟨rfl, hb4⟩
        have hV4 := blk_below HV3.out hb4
        have hX5 := blk_below HX4.out hb4
        have HB4 := Lib.hid (below_then HB3.out HB3.out.size hb4)
        clear v0 v1 v2 v3 v4 v5 v6 z0 z1
        have v0 : w4.cell? ⟨wr.heap.size, 0, none⟩ = some (.int .i64 X.f0) := (blk_cell hV4 0).trans rfl
        have v1 : w4.cell? ⟨wr.heap.size, 1, none⟩ = some (.bool X.f1) := (blk_cell hV4 1).trans rfl
        have v2 : w4.cell? ⟨wr.heap.size, 2, none⟩ = some (.int .i64 X.f2.f0) := (blk_cell hV4 2).trans rfl
        have v3 : w4.cell? ⟨wr.heap.size, 3, none⟩ = some (.int .i64 X.f2.f1) := (blk_cell hV4 3).trans rfl
        have v4 : w4.cell? ⟨wr.heap.size, 4, none⟩ = some (.int .i64 X.f2.f2) := (blk_cell hV4 4).trans rfl
        have v5 : w4.cell? ⟨wr.heap.size, 5, none⟩ = some (.string X.f2.f3) := (blk_cell hV4 5).trans rfl
        have v6 : w4.cell? ⟨wr.heap.size, 6, none⟩ = some (.slice A6 X.f2.f4.length c6) := (blk_cell hV4 6).trans rfl
        have z0 : w4.cell? ⟨w.heap.size, 0, none⟩ = some (.int .i64 c.f0) := (blk_cell hX5 0).trans rfl
        have z1 : w4.cell? ⟨w.heap.size, 1, none⟩ = some (.slice (some ad) c.f1.length c1) := (blk_cell hX5 1).trans rfl
        have HRY := Lib.hid (Kd.C_below HRX.out HB4.out)
        have HBB := Lib.hid (below_then HB1.out HB1.out.size (below_then HB.out HB.out.size HB4.out))
        have HBW := Lib.hid (below_then HB.out HB.out.size HB4.out)
        clear hb4 hV4 hX5 HV3 HX4 HSM HB3 HRX
        generalize sameN X.f2 z38 = nn at *
        by_cases d1 : X.f0 < 1
        · have D1 : decide (X.f0 < 1) = true := decide_eq_true d1
          have HG2 : Hid (G = false) := Lib.hid (by rw [HST.out, verOk, decide_eq_false (by omega)]; rfl)
          clear d1
          go_wp2_with fail
          go_quiet (fail)
          go_wp2_with fail
          go_ret
          exact ⟨by rw [HE.out, HG2.out]; rfl, zqe HBB.out _⟩
        have D1 : decide (X.f0 < 1) = false := decide_eq_false d1
        have HD1 := Lib.hid (decide_eq_true (show 1 ≤ X.f0 by omega))
        by_cases d2 : last < X.f0
        · have D2 : decide (last < X.f0) = true := decide_eq_true d2
          have HG2 : Hid (G = false) := Lib.hid (by rw [HST.out, verOk, HD1.out, decide_eq_false (show ¬ X.f0 ≤ last by omega)]; rfl)
          clear d1 d2
          go_wp2_with fail
          go_quiet (fail)
          go_wp2_with fail
          go_ret
          exact ⟨by rw [HE.out, HG2.out]; rfl, zqe HBB.out _⟩
        have D2 : decide (last < X.f0) = false := decide_eq_false d2
        have HD2 := Lib.hid (decide_eq_true (show X.f0 ≤ last by omega))
        clear d1 d2
        by_cases d3 : 0 < i
        · have D3 : decide (0 < i) = true := decide_eq_true d3
          have D3i : decide (0 < (i : Int)) = true := decide_eq_true (by omega)
          obtain ⟨ad_, A7, c7, e0, y0, _⟩ := at_T58 HRY.out ((i : Int) - 1) (by omega) (by have := HSL.out.1; omega)
          cases e0
          rw [show ((i : Int) - 1).toNat = i - 1 by omega] at y0
          have hpp := HPV.out d3
          have p4 := eq_true (show (0 : Int) ≤ (i : Int) - 1 by omega)
          have p4b := eq_true (show (1 : Int) ≤ (i : Int) by omega)
          have p4c := eq_true (show 1 ≤ i by omega)
          have hwk : IntKind.i64.wrap ((i : Int) - 1) = (i : Int) - 1 := IntWalk.i64_in _ (by have := HSL.out.1; omega)
          have p5 := eq_true (show (i : Int) - 1 < (c.f1.length : Int) by omega)
          have p5b := eq_true (show i ≤ c.f1.length by omega)
          have p5c := eq_true (show (i : Int) ≤ (c.f1.length : Int) by omega)
          generalize rd_T58 c.f1 ((i : Int) - 1) = Y at *
          by_cases d4 : X.f0 ≤ Y.f0
          · have D4 : decide (X.f0 ≤ Y.f0) = true := decide_eq_true d4
            have HG2 : Hid (G = false) := Lib.hid (by rw [HST.out, verOk, HD1.out, HD2.out, hpp, okP, decide_eq_false (by omega)]; rfl)
            clear hpp d4
            go_wp2_with fail
            go_quiet (fail)
            go_wp2_with fail
            go_ret
            exact ⟨by rw [HE.out, HG2.out]; rfl, zqe HBB.out _⟩
          have D4 : decide (X.f0 ≤ Y.f0) = false := decide_eq_false d4
          have HOK : Hid (okP (prevOf (c.f1.map fun v => v.f0) i) X.f0 = true) := Lib.hid (by rw [hpp, okP, decide_eq_true (by omega)])
          clear hpp d4
          generalize hgg : X.f1 = gg at *
          cases gg
          · have HOX : Hid (ownB X c.f0 = false ∨ ownB X c.f0 = true) := Lib.hid (by cases ownB X c.f0 <;> simp)
            first
            | (have HG2 : Hid (G = false) := Lib.hid (by rw [HST.out, verOk, HD1.out, HD2.out, HOK.out, HOW.out]; rfl)
               clear hgg
               go_wp2_with fail
               go_quiet (fail)
               go_wp2_with fail
               go_ret
               exact ⟨by rw [HE.out, HG2.out]; rfl, zqe HBB.out _⟩)
            | (have HG2 : Hid (G = versGo c.f0 last (prevOf (c.f1.map fun v => v.f0) (i + 1)) (c.f1.drop (i + 1))) := Lib.hid (by rw [HST.out, verOk, HD1.out, HD2.out, HOK.out, HOW.out]; rfl)
               clear hgg
               go_wp2_with fail
               go_quiet (fail)
               go_wp2_with fail
               go_roundg g
               case measure => have := HI2.out; omega
               case rel => exact ⟨i + 1, (by first | rw [HW.out] | rfl | (congr 1; omega)), Lib.hid ⟨by omega, by have := HI2.out; omega, HG2.out⟩, Lib.hid (zqe HBW.out _)⟩)
          · cases nn
            · have HG2 : Hid (G = false) := Lib.hid (by rw [HST.out, verOk, HD1.out, HD2.out, HOK.out, HOW.out]; rfl)
              clear hgg
              go_wp2_with fail
              go_quiet (fail)
              go_wp2_with fail
              go_ret
              exact ⟨by rw [HE.out, HG2.out]; rfl, zqe HBB.out _⟩
            · have HG2 : Hid (G = versGo c.f0 last (prevOf (c.f1.map fun v => v.f0) (i + 1)) (c.f1.drop (i + 1))) := Lib.hid (by rw [HST.out, verOk, HD1.out, HD2.out, HOK.out, HOW.out]; rfl)
              clear hgg
              go_wp2_with fail
              go_quiet (fail)
              go_wp2_with fail
              go_roundg g
              case measure => have := HI2.out; omega
              case rel => exact ⟨i + 1, (by first | rw [HW.out] | rfl | (congr 1; omega)), Lib.hid ⟨by omega, by have := HI2.out; omega, HG2.out⟩, Lib.hid (zqe HBW.out _)⟩
        · have D3 : decide (0 < i) = false := decide_eq_false d3
          have D3i : decide (0 < (i : Int)) = false := decide_eq_false (by omega)
          have HOK : Hid (okP (prevOf (c.f1.map fun v => v.f0) i) X.f0 = true) := Lib.hid (by rw [show i = 0 by omega]; rfl)
          generalize hgg : X.f1 = gg at *
          cases gg
          · have HOX : Hid (ownB X c.f0 = false ∨ ownB X c.f0 = true) := Lib.hid (by cases ownB X c.f0 <;> simp)
            first
            | (have HG2 : Hid (G = false) := Lib.hid (by rw [HST.out, verOk, HD1.out, HD2.out, HOK.out, HOW.out]; rfl)
               clear hgg
               go_wp2_with fail
               go_quiet (fail)
               go_wp2_with fail
               go_ret
               exact ⟨by rw [HE.out, HG2.out]; rfl, zqe HBB.out _⟩)
            | (have HG2 : Hid (G = versGo c.f0 last (prevOf (c.f1.map fun v => v.f0) (i + 1)) (c.f1.drop (i + 1))) := Lib.hid (by rw [HST.out, verOk, HD1.out, HD2.out, HOK.out, HOW.out]; rfl)
               clear hgg
               go_wp2_with fail
               go_quiet (fail)
               go_wp2_with fail
               go_roundg g
               case measure => have := HI2.out; omega
               case rel => exact ⟨i + 1, (by first | rw [HW.out] | rfl | (congr 1; omega)), Lib.hid ⟨by omega, by have := HI2.out; omega, HG2.out⟩, Lib.hid (zqe HBW.out _)⟩)
          · cases nn
            · have HG2 : Hid (G = false) := Lib.hid (by rw [HST.out, verOk, HD1.out, HD2.out, HOK.out, HOW.out]; rfl)
              clear hgg
              go_wp2_with fail
              go_quiet (fail)
              go_wp2_with fail
              go_ret
              exact ⟨by rw [HE.out, HG2.out]; rfl, zqe HBB.out _⟩
            · have HG2 : Hid (G = versGo c.f0 last (prevOf (c.f1.map fun v => v.f0) (i + 1)) (c.f1.drop (i + 1))) := Lib.hid (by rw [HST.out, verOk, HD1.out, HD2.out, HOK.out, HOW.out]; rfl)
              clear hgg
              go_wp2_with fail
              go_quiet (fail)
              go_wp2_with fail
              go_roundg g
              case measure => have := HI2.out; omega
              case rel => exact ⟨i + 1, (by first | rw [HW.out] | rfl | (congr 1; omega)), Lib.hid ⟨by omega, by have := HI2.out; omega, HG2.out⟩, Lib.hid (zqe HBW.out _)⟩
    · have q3 : decide (i < c.f1.length) = false := decide_eq_false c1_
      have q3i : decide ((i : Int) < (c.f1.length : Int)) = false := decide_eq_false (by omega)
      have HG2 : Hid (G = true) := Lib.hid (by rw [hi3, List.drop_eq_nil_of_le (by omega), versGo])
      have HBB := Lib.hid (below_then HB1.out HB1.out.size HB.out)
      clear hi3 hi1 hi2 c1_
      go_wp2_with fail
      go_ret
      exact ⟨by rw [HE.out, HG2.out]; rfl, HBB.out⟩
def copyholdref12_chain.f (a0_0 : Int) (l0_1 : List S58) (a1 : Int) : Option Bool := if smallC ⟨a0_0, l0_1⟩ = true then some (chainB ⟨a0_0, l0_1⟩ a1) else none
theorem copyholdref12_chain.calls (a0_0 : Int) (A0_1 : Option Addr) (c0_1 : Nat) (l0_1 : List S58) (a1 : Int) (r : Bool) (w : World) (hr0_1 : Kd.C k58 w A0_1 l0_1.length l0_1) (hc0_1 : l0_1.length ≤ c0_1) (h : copyholdref12_chain.f a0_0 l0_1 a1 = some r) :
    Calls Try.prog 28 #[.agg #[.int .i64 a0_0, .slice A0_1 l0_1.length c0_1], .int .i64 a1] w fun e w' => e = .returned (.bool r) ∧ Below w.heap.size w w' := by
  unfold copyholdref12_chain.f at h
  split at h
  · rename_i hs
    obtain rfl := Option.some.inj h
    exact chain_calls A0_1 c0_1 ⟨a0_0, l0_1⟩ a1 w hr0_1 hs
  · cases h
end Go.Proofs.Ytdkgkiemndlneaa
end

section
namespace Go.Proofs.Ytdkgkiemndlneaa
open Go.RowKit Go.Proofs.Ytdkgkiemndlneaa.Q Go.Proofs.YtdkgkiemndlneaaW.PrintWords Go.Proofs.YtdkgkiemndlneaaW.PrintLast Go.Proofs.YtdkgkiemndlneaaW.PrintMore Math Pl X
set_option maxHeartbeats 2000000 in
theorem right1_calls (x : S58) (A6 : Option Addr) (c6 : Nat) (ino : Int) (g0 : Nat) (w : World) (hc : w.cell? ⟨g0, 0, none⟩ = some (.int .i64 ino)) (hk : Kd.C k91 w A6 x.f2.f4.length x.f2.f4) (hl6 : x.f2.f4.length ≤ c6) (hs : x.f2.f4.length ≤ 10000) :
    Calls Try.prog 37 #[.agg #[.int .i64 x.f0, .bool x.f1, .int .i64 x.f2.f0, .int .i64 x.f2.f1, .int .i64 x.f2.f2, .string x.f2.f3, .slice A6 x.f2.f4.length c6], .pointer (some ⟨g0, 0, none⟩)] w fun e w' => e = .returned (.bool (!ownB x ino)) ∧ Below w.heap.size w w' := by
  have HO := Lib.hid (fun (W : World) (hb : Below w.heap.size w W) => store_own.calls 20001 x.f0 x.f1 x.f2.f0 x.f2.f1 x.f2.f2 x.f2.f3 A6 c6 x.f2.f4 ino (ownB x ino) W (Kd.C_below hk hb) hl6 (go_ownB x ino hs 20001 (Nat.le_refl _)))
  clear hk hl6 hs
  have hca : (w.alloc (.cells #[.int .i64 x.f0, .bool x.f1, .int .i64 x.f2.f0, .int .i64 x.f2.f1, .int .i64 x.f2.f2, .string x.f2.f3, .slice A6 x.f2.f4.length c6] 58)).cell? ⟨g0, 0, none⟩ = some (.int .i64 ino) := (Below.cell ((Below.refl w.heap.size w).alloc (Nat.le_refl _) _) (World.block_lt_of_cell? _ _ hc)).trans hc
  generalize ownB x ino = b at *
  go_enter Try.func37, Try.ntmps37
  go_wp2_with fail
  refine (HO.out _ ((Below.refl _ _).alloc (Nat.le_refl _) _)).mono ?_
  rintro e w3 ⟨rfl, hb3⟩
  have HB := Lib.hid (below_then ((Below.refl w.heap.size w).alloc (Nat.le_refl _) _) (by rw [World.size_alloc]; omega) hb3)
  clear hb3 HO
  go_wp2_with fail
  go_ret
  exact ⟨rfl, HB.out⟩
def idxGo (p : S58 → Bool) : List S58 → Int → Int
  | [], _ => -1
  | x :: r, i => if p x = true then i else idxGo p r (i + 1)
theorem idx_any (p : S58 → Bool) : ∀ (l : List S58) (i : Int), 0 ≤ i → decide (0 ≤ idxGo p l i) = l.any p
  | [], _, _ => rfl
  | x :: r, i, h => by
    rw [idxGo, List.any_cons]
    by_cases c : p x = true
    · rw [if_pos c, c, Bool.true_or]; exact decide_eq_true h
    · rw [if_neg c, idx_any p r (i + 1) (by omega), Bool.eq_false_iff.2 c, Bool.false_or]
set_option maxHeartbeats 4000000 in
set_option maxRecDepth 1000000 in
theorem index_calls (A : Option Addr) (c : Nat) (l : List S58) (ino : Int) (g0 : Nat) (hl : l.length ≤ 10000) (hs : ∀ v ∈ l, v.f2.f4.length ≤ 10000) (w : World) (hr : Kd.C k58 w A l.length l) (hc : w.cell? ⟨g0, 0, none⟩ = some (.int .i64 ino)) :
    Calls Try.prog 56 #[.slice A l.length c, .func (.func 37) #[] #[.pointer (some ⟨g0, 0, none⟩)]] w fun e w' => e = .returned (.int .i64 (idxGo (fun v => !ownB v ino) l 0)) ∧ Below w.heap.size w w' := by
  obtain ⟨F, hF⟩ : ∃ F, F = idxGo (fun v => !ownB v ino) (l.drop 0) ((0 : Nat) : Int) := ⟨_, rfl⟩
  have hF' : F = idxGo (fun v => !ownB v ino) l 0 := hF
  rw [← hF']
  have HF := Lib.hid hF; have HR := Lib.hid hr; have HC := Lib.hid hc; have HS := Lib.hid hs
  clear hF hF' hr hc hs
  go_enter Try.func56, Try.ntmps56
  go_wp2_with fail
  go_loopg [8] (l.length + 1) (fun gk v8 wx => ∃ (i : Nat), v8 = .int .i64 (i : Int) ∧ Hid (i ≤ l.length ∧ l.length - i < gk ∧ F = idxGo (fun v => !ownB v ino) (l.drop i) (i : Int)) ∧ Hid (Below w.heap.size w wx))
  case atStart => exact ⟨0, rfl, Lib.hid ⟨by omega, by omega, HF.out⟩, Lib.hid (Below.refl _ _)⟩
  case round =>
    obtain ⟨i, rfl, HI, HB⟩ := hrel
    obtain ⟨hi1, hi2, hi3⟩ := HI.out
    clear HI HF
    obtain ⟨g, rfl⟩ : ∃ g, gk = g + 1 := ⟨gk - 1, by omega⟩
    by_cases c1_ : i < l.length
    · have q3 : decide (i < l.length) = true := decide_eq_true c1_
      have q3i : decide ((i : Int) < (l.length : Int)) = true := decide_eq_true (by omega)
      obtain ⟨ad, A6, c6, e0, x0, x1, x2, x3, x4, x5, x6, hl6, hi6⟩ := at_T58 (Kd.C_below HR.out HB.out) (i : Int) (by omega) (by omega)
      cases e0
      rw [Int.toNat_natCast] at x0 x1 x2 x3 x4 x5 x6
      have hX : rd_T58 l (i : Int) = l[i] := rdV c1_
      have hm : (rd_T58 l (i : Int)) ∈ l := by rw [hX]; exact List.getElem_mem _
      have hf4 := HS.out _ hm
      have hstep : F = if (!ownB (rd_T58 l (i : Int)) ino) = true then (i : Int) else idxGo (fun v => !ownB v ino) (l.drop (i + 1)) ((i + 1 : Nat) : Int) := by
        rw [hi3, List.drop_eq_getElem_cons c1_, idxGo, hX]
        rfl
      have hw1 : wrap64 ((i : Int) + 1) = ((i + 1 : Nat) : Int) := by rw [w64 (by omega) (by omega)]; omega
      have p3 := eq_true (show (0 : Int) ≤ (i : Int) by omega)
      have q3e := eq_true (show (i : Int) < (l.length : Int) by omega)
      generalize rd_T58 l (i : Int) = x at *
      have HO := Lib.hid (fun (W : World) (hb : Below wr.heap.size wr W) => right1_calls x A6 c6 ino g0 W ((hb.cell (World.block_lt_of_cell? wr _ ((HB.out.cell (World.block_lt_of_cell? w _ HC.out)).trans HC.out))).trans ((HB.out.cell (World.block_lt_of_cell? w _ HC.out)).trans HC.out)) (Kd.C_below hi6 hb) hl6 hf4)
      have HST := Lib.hid hstep; have HW := Lib.hid hw1; have HI2 := Lib.hid hi2
      clear hX hm hstep hw1 hi3 hi6 hf4 hi1 hi2
      generalize ownB x ino = b at *
      go_wp2_with fail
      refine (HO.out _ (Below.refl _ _)).mono ?_
      rintro e w3 ⟨rfl, hb3⟩
      have HB3 := Lib.hid (below_then HB.out HB.out.size hb3)
      clear hb3 HO x0 x1 x2 x3 x4 x5 x6
      cases b
      · have HE : Hid (F = (i : Int)) := Lib.hid (by rw [HST.out]; rfl)
        go_wp2_with fail
        go_ret
        exact ⟨by rw [HE.out]; rfl, HB3.out⟩
      · have HE : Hid (F = idxGo (fun v => !ownB v ino) (l.drop (i + 1)) ((i + 1 : Nat) : Int)) := Lib.hid (by rw [HST.out]; rfl)
        go_wp2_with fail
        go_roundg g
        case measure => have := HI2.out; omega
        case rel => exact ⟨i + 1, (by first | rw [HW.out] | rfl | (congr 1; omega)), Lib.hid ⟨by omega, by have := HI2.out; omega, HE.out⟩, HB3⟩
    · have q3 : decide (i < l.length) = false := decide_eq_false c1_
      have q3i : decide ((i : Int) < (l.length : Int)) = false := decide_eq_false (by omega)
      have HE : Hid (F = -1) := Lib.hid (by rw [hi3, List.drop_eq_nil_of_le (by omega), idxGo])
      clear hi3 hi1 hi2 c1_
      go_wp2_with fail
      go_ret
      exact ⟨by rw [HE.out]; rfl, HB.out⟩
set_option maxHeartbeats 2000000 in
theorem contains_calls (A : Option Addr) (c : Nat) (l : List S58) (ino : Int) (g0 : Nat) (hl : l.length ≤ 10000) (hs : ∀ v ∈ l, v.f2.f4.length ≤ 10000) (w : World) (hr : Kd.C k58 w A l.length l) (hc : w.cell? ⟨g0, 0, none⟩ = some (.int .i64 ino)) :
    Calls Try.prog 36 #[.slice A l.length c, .func (.func 37) #[] #[.pointer (some ⟨g0, 0, none⟩)]] w fun e w' => e = .returned (.bool (!(l.all fun v => ownB v ino))) ∧ Below w.heap.size w w' := by
  have HO := Lib.hid (index_calls A c l ino g0 hl hs w hr hc)
  have hq := idx_any (fun v => !ownB v ino) l 0 (Int.le_refl _)
  have HQ : Hid (decide (0 ≤ idxGo (fun v => !ownB v ino) l 0) = !(l.all fun v => ownB v ino)) := Lib.hid (by rw [hq]; simp [List.all_eq_not_any_not])
  clear hr hc hs hq
  generalize idxGo (fun v => !ownB v ino) l 0 = k at *
  go_enter Try.func36, Try.ntmps36
  go_wp2_with fail
  refine HO.out.mono ?_
  rintro e w3 ⟨rfl, hb3⟩
  have HB := Lib.hid hb3
  clear hb3 HO
  go_wp2_with fail
  go_ret
  exact ⟨by rw [← HQ.out]; rfl, HB.out⟩
end Go.Proofs.Ytdkgkiemndlneaa
end

section
namespace Go.Proofs.Ytdkgkiemndlneaa
open Go.RowKit Go.Proofs.Ytdkgkiemndlneaa.Q Go.Proofs.YtdkgkiemndlneaaW.PrintWords Go.Proofs.YtdkgkiemndlneaaW.PrintLast Go.Proofs.YtdkgkiemndlneaaW.PrintMore Math Pl X
theorem alloc_below (w : World) (o : Obj) : Below w.heap.size w (w.alloc o) := (Below.refl _ _).alloc (Nat.le_refl _) _
theorem cell_keep {w w1 : World} {a : Addr} {v : Value} (h : w.cell? a = some v) (hb : Below w.heap.size w w1) : w1.cell? a = some v := (hb.cell (World.block_lt_of_cell? _ _ h)).trans h
set_option maxHeartbeats 8000000 in
set_option maxRecDepth 1000000 in
theorem right_calls (A0 : Option Addr) (c0 : Nat) (l0 : List S55) (A1 : Option Addr) (c1 : Nat) (l1 : List S61) (st : Int) (w : World) (hr0 : Kd.C k55 w A0 l0.length l0) (hr1 : Kd.C k61 w A1 l1.length l1) (hc1 : l1.length ≤ c1) (hsm : smallS l0 l1 = true) :
  Calls Try.prog 14 #[.agg #[.slice A0 l0.length c0, .slice A1 l1.length c1, .int .i64 st]] w fun e w' => e = .returned (.bool (storeR l0 l1 st)) ∧ Below w.heap.size w w' := by
 obtain ⟨W1, hW1⟩ : ∃ W1, W1 = w.alloc (.cells #[.slice A0 l0.length c0, .slice A1 l1.length c1, .int .i64 st] 25) := ⟨_, rfl⟩
 have b1 : Below w.heap.size w W1 := by rw [hW1]; exact alloc_below w _
 have hbx : W1.heap[w.heap.size]? = some (.cells #[.slice A0 l0.length c0, .slice A1 l1.length c1, .int .i64 st] 25 (0, 0)) := by rw [hW1]; exact heap_alloc_new w _
 have hsl : l0.length ≤ 10000 ∧ l1.length ≤ 10000 ∧ ∀ c ∈ l0, c.f1.length ≤ 10000 ∧ ∀ v ∈ c.f1, v.f2.f4.length ≤ 10000 := by
  unfold smallS at hsm
  simp only [Bool.and_eq_true, decide_eq_true_eq, List.all_eq_true] at hsm
  refine ⟨hsm.1, hsm.2.1, fun c hc => ?_⟩
  have h := hsm.2.2 c hc
  unfold smallC at h
  simp only [Bool.and_eq_true, decide_eq_true_eq, List.all_eq_true] at h
  exact h
 obtain ⟨G, hG⟩ : ∃ G, G = chainsGo st (prevOf (l0.map fun c => c.f0) 0) (l0.drop 0) := ⟨_, rfl⟩
 obtain ⟨F, hF⟩ : ∃ F, F = storeR l0 l1 st := ⟨_, rfl⟩
 rw [← hF]
 have hF2 : F = (G && (decide (1 ≤ st) && (!(l1.any fun c => decide (c.f1 < 1)) && riseF (l1.map fun c => c.f0) st))) := by rw [hF, hG]; rfl
 have HW1 := Lib.hid hW1; have HB1 := Lib.hid b1; have HX := Lib.hid hbx; have HSL := Lib.hid hsl; have HF := Lib.hid hF2; have HG := Lib.hid hG; have HR := Lib.hid hr0
 have HAN := Lib.hid (fun (W : World) (hb : Below w.heap.size w W) => api_Count_39.calls 10002 A1 c1 l1 () (l1.any fun c => decide (c.f1 < 1)) W (Kd.C_below hr1 hb) hc1 (any_cnt l1 (by omega) 10002 (by omega)))
 have HRN := Lib.hid (fun (W : World) (hb : Below w.heap.size w W) => api_Count_41.calls 10001 A1 c1 l1 st () (riseF (l1.map fun c => c.f0) st) W (Kd.C_below hr1 hb) hc1 (rise_cnt l1 st (by omega) 10001 (by omega)))
 clear hW1 b1 hbx hsl hsm hF hF2 hG hr0 hr1
 generalize (l1.any fun c => decide (c.f1 < 1)) = an at *
 generalize riseF (l1.map fun c => c.f0) st = rn at *
 go_enter Try.func14, Try.ntmps14
 go_wp2_with fail
 rw [← HW1.out]
 go_loopg [9] (l0.length + 1) (fun gk v9 wx => ∃ (i : Nat), v9 = .int .i64 (i : Int) ∧ Hid (i ≤ l0.length ∧ l0.length - i < gk ∧ G = chainsGo st (prevOf (l0.map fun c => c.f0) i) (l0.drop i)) ∧ Hid (Below W1.heap.size W1 wx))
 case atStart => exact ⟨0, rfl, Lib.hid ⟨by omega, by omega, HG.out⟩, Lib.hid (Below.refl _ _)⟩
 case round =>
  obtain ⟨i, rfl, HI, HB⟩ := hrel
  obtain ⟨hi1, hi2, hi3⟩ := HI.out
  have hX3 := blk_below HX.out HB.out
  have z0 : wr.cell? ⟨w.heap.size, 0, none⟩ = some (.slice A0 l0.length c0) := (blk_cell hX3 0).trans rfl
  have z1 : wr.cell? ⟨w.heap.size, 1, none⟩ = some (.slice A1 l1.length c1) := (blk_cell hX3 1).trans rfl
  have z2 : wr.cell? ⟨w.heap.size, 2, none⟩ = some (.int .i64 st) := (blk_cell hX3 2).trans rfl
  have HX3 := Lib.hid hX3
  have hbw := below_then HB1.out HB1.out.size HB.out
  have HBW := Lib.hid hbw
  have HRX := Lib.hid (Kd.C_below HR.out hbw)
  clear HI hX3 HG hbw
  obtain ⟨g, rfl⟩ : ∃ g, gk = g + 1 := ⟨gk - 1, by omega⟩
  by_cases c1_ : i < l0.length
  ·have q3 : decide (i < l0.length) = true := decide_eq_true c1_
   have q3i : decide ((i : Int) < (l0.length : Int)) = true := decide_eq_true (by omega)
   obtain ⟨ad, A2, c2, e0, x0, x1, hl2, hi2_⟩ := at_T55 HRX.out (i : Int) (by omega) (by omega)
   cases e0
   rw [Int.toNat_natCast] at x0 x1
   have hX : rd_T55 l0 (i : Int) = l0[i] := rdH c1_
   have hm : (rd_T55 l0 (i : Int)) ∈ l0 := by rw [hX]; exact List.getElem_mem _
   have hsz := HSL.out.2.2 _ hm
   have hstep : G = (chainB (rd_T55 l0 (i : Int)) st && (okP (prevOf (l0.map fun c => c.f0) i) (rd_T55 l0 (i : Int)).f0 && chainsGo st (prevOf (l0.map fun c => c.f0) (i + 1)) (l0.drop (i + 1)))) := by
    rw [hi3, List.drop_eq_getElem_cons c1_, chainsGo, hX]
    simp only [prevOf]
    rw [List.getElem?_eq_getElem (by rw [List.length_map]; exact c1_), List.getElem_map]
   have hprev : 0 < i → prevOf (l0.map fun c => c.f0) i = some (rd_T55 l0 ((i : Int) - 1)).f0 := by
    intro h0
    obtain ⟨j, rfl⟩ : ∃ j, i = j + 1 := ⟨i - 1, by omega⟩
    simp only [prevOf]
    rw [List.getElem?_eq_getElem (by rw [List.length_map]; omega), List.getElem_map, show ((j + 1 : Nat) : Int) - 1 = (j : Int) by omega, rdH (by omega)]
   have hw1 : wrap64 ((i : Int) + 1) = ((i + 1 : Nat) : Int) := by rw [w64 (by have := HSL.out.1; omega) (by have := HSL.out.1; omega)]; omega
   have p3 := eq_true (show (0 : Int) ≤ (i : Int) by omega)
   have q3e := eq_true (show (i : Int) < (l0.length : Int) by omega)
   generalize rd_T55 l0 (i : Int) = C at *
   obtain ⟨W4, hW4⟩ : ∃ W4, W4 = wr.alloc (.cells #[.int .i64 C.f0, .slice A2 C.f1.length c2] 55) := ⟨_, rfl⟩
   have b4 : Below wr.heap.size wr W4 := by rw [hW4]; exact alloc_below wr _
   have hc4 : W4.heap[wr.heap.size]? = some (.cells #[.int .i64 C.f0, .slice A2 C.f1.length c2] 55 (0, 0)) := by rw [hW4]; exact heap_alloc_new wr _
   have HD4 : Hid (W4.drew.cell? ⟨wr.heap.size, 0, none⟩ = some (.int .i64 C.f0) ∧ W4.drew.cell? ⟨wr.heap.size, 1, none⟩ = some (.slice A2 C.f1.length c2)) := Lib.hid ⟨(blk_cell (zqb hc4) 0).trans rfl, (blk_cell (zqb hc4) 1).trans rfl⟩
   have HD0 : Hid (W4.drew.cell? ⟨w.heap.size, 0, none⟩ = some (.slice (some ad) l0.length c0) ∧ W4.drew.cell? ⟨w.heap.size, 2, none⟩ = some (.int .i64 st)) := Lib.hid ⟨cell_keep z0 (below_drew b4), cell_keep z2 (below_drew b4)⟩
   have HBD := Lib.hid (below_drew b4)
   have HB4 := Lib.hid b4
   have h40 : W4.cell? ⟨wr.heap.size, 0, none⟩ = some (.int .i64 C.f0) := (blk_cell hc4 0).trans rfl
   have h00 : W4.cell? ⟨w.heap.size, 0, none⟩ = some (.slice (some ad) l0.length c0) := cell_keep z0 b4
   have HRI := Lib.hid (fun (W : World) (hb : Below wr.heap.size wr W) => api_Ver.calls 10001 A2 c2 C.f1 st () (riseF (C.f1.map fun v => v.f0) st) W (Kd.C_below hi2_ hb) hl2 (rise_ver C.f1 st (by have := hsz.1; omega) 10001 (by have := hsz.1; omega)))
   have HCF := Lib.hid (fun (W : World) (hb : Below wr.heap.size wr W) hq => contains_calls A2 c2 C.f1 C.f0 wr.heap.size hsz.1 hsz.2 W (Kd.C_below hi2_ hb) hq)
   have HCB : Hid (chainB C st = (decide (1 ≤ C.f0) && (riseF (C.f1.map fun v => v.f0) st && C.f1.all fun v => ownB v C.f0))) := Lib.hid rfl
   have HST := Lib.hid hstep; have HPV := Lib.hid hprev; have HW := Lib.hid hw1; have HI2 := Lib.hid hi2; have HW4 := Lib.hid hW4
   clear hX hm hstep hprev hw1 hi3 hi2_ hsz hi1 hi2 hc4 hl2 hW4 b4
   generalize riseF (C.f1.map fun v => v.f0) st = rr at *
   generalize (C.f1.all fun v => ownB v C.f0) = ow at *
   by_cases d1 : C.f0 < 1
   ·have D1 : decide (C.f0 < 1) = true := decide_eq_true d1
    have HG2 : Hid (F = false) := Lib.hid (by rw [HF.out, HST.out, HCB.out, decide_eq_false (show ¬ 1 ≤ C.f0 by omega)]; rfl)
    have HBB := Lib.hid (below_then HBW.out HBW.out.size HB4.out)
    clear d1
    go_wp2_with fail
    rw [← HW4.out]
    go_quiet (fail)
    go_wp2_with fail
    go_ret
    exact ⟨by rw [HG2.out]; rfl, zqe HBB.out _⟩
   have D1 : decide (C.f0 < 1) = false := decide_eq_false d1
   have HD1 := Lib.hid (decide_eq_true (show 1 ≤ C.f0 by omega))
   clear d1
   by_cases d3 : 0 < i
   ·have D3 : decide (0 < i) = true := decide_eq_true d3
    have D3i : decide (0 < (i : Int)) = true := decide_eq_true (by omega)
    obtain ⟨ad_, A7, c7, e0, y0, _⟩ := at_T55 HRX.out ((i : Int) - 1) (by omega) (by have := HSL.out.1; omega)
    cases e0
    rw [show ((i : Int) - 1).toNat = i - 1 by omega] at y0
    have hpp := HPV.out d3
    have p4 := eq_true (show (0 : Int) ≤ (i : Int) - 1 by omega)
    have p4b := eq_true (show (1 : Int) ≤ (i : Int) by omega)
    have p4c := eq_true (show 1 ≤ i by omega)
    have hwk : IntKind.i64.wrap ((i : Int) - 1) = (i : Int) - 1 := IntWalk.i64_in _ (by have := HSL.out.1; omega)
    have p5 := eq_true (show (i : Int) - 1 < (l0.length : Int) by omega)
    have p5b := eq_true (show i ≤ l0.length by omega)
    have p5c := eq_true (show (i : Int) ≤ (l0.length : Int) by omega)
    generalize rd_T55 l0 ((i : Int) - 1) = Y at *
    have y4 := cell_keep y0 HB4.out
    have HDY := Lib.hid (cell_keep y0 HBD.out)
    clear y0
    by_cases d4 : C.f0 ≤ Y.f0
    ·have D4 : decide (C.f0 ≤ Y.f0) = true := decide_eq_true d4
     have HG2 : Hid (F = false) := Lib.hid (by rw [HF.out, HST.out, hpp, okP, decide_eq_false (by omega)]; simp)
     have HBB := Lib.hid (below_then HBW.out HBW.out.size HB4.out)
     clear hpp d4
     go_wp2_with fail
     rw [← HW4.out]
     go_quiet (fail)
     go_wp2_with fail
     go_ret
     exact ⟨by rw [HG2.out]; rfl, zqe HBB.out _⟩
    ·have D4 : decide (C.f0 ≤ Y.f0) = false := decide_eq_false d4
     have HOK : Hid (okP (prevOf (l0.map fun c => c.f0) i) C.f0 = true) := Lib.hid (by rw [hpp, okP, decide_eq_true (by omega)])
     clear hpp d4
     go_wp2_with fail
     rw [← HW4.out]
     refine start_ (n := 27) (S := fun w' => w'.cell? ⟨w.heap.size, 0, none⟩ = some (.slice (some ad) l0.length c0) ∧ w'.cell? ⟨w.heap.size, 2, none⟩ = some (.int .i64 st) ∧ w'.cell? ⟨wr.heap.size, 0, none⟩ = some (.int .i64 C.f0) ∧ w'.cell? ⟨wr.heap.size, 1, none⟩ = some (.slice A2 C.f1.length c2) ∧ w'.cell? (ad.add ((i - 1) * 2)) = some (.int .i64 Y.f0)) (ds := []) #[false, false, false, false, false, false, false, false, false, false, false, false, false, false, false, false, false, false, false, false, false, false, false, false, false, false, false] (by kernel_rfl) rfl rfl ⟨HD0.out.1, HD0.out.2, HD4.out.1, HD4.out.2, HDY.out⟩ (fun hHeld => ?_)
     refine pure_ (i := 0) (N := some 14) (v := ?_) (a' := ?_) (zb 27 1) rfl rfl (by kernel_rfl) (fun _ _ _ h => h) (Or.inl ⟨by rfl, ?_⟩) ?_ ?_
     (rotate_left; · (intro w'; go_simp; with_reducible rfl))
     (rotate_left; · (simp only [Act.put, zqk, zql, zqm, i64_w, i32_w]; rfl))
     refine take_ (i := 1) (N := some 15) (v := ?_) (a' := ?_) (zb 27 3) rfl rfl (by kernel_rfl) (fun _ _ _ h => h) (Or.inl ⟨by rfl, ?_⟩) hHeld ?_ ?_
     rotate_left
     ·rintro w' ⟨s0, s1, s2, s3, s4⟩
      go_simp
      with_reducible rfl
     (rotate_left; · (simp only [Act.put, zqk, zql, zqm, i64_w, i32_w]; rfl))
     refine pure_ (i := 2) (N := some 16) (v := ?_) (a' := ?_) (zb 27 7) rfl rfl (by kernel_rfl) (fun _ _ _ h => h) (Or.inl ⟨by rfl, ?_⟩) ?_ ?_
     (rotate_left; · (intro w'; go_simp; with_reducible rfl))
     (rotate_left; · (simp only [Act.put, zqk, zql, zqm, i64_w, i32_w]; rfl))
     refine pure_ (i := 3) (N := some 17) (v := ?_) (a' := ?_) (zb 27 15) rfl rfl (by kernel_rfl) (fun _ _ _ h => h) (Or.inl ⟨by rfl, ?_⟩) ?_ ?_
     (rotate_left; · (intro w'; go_simp; with_reducible rfl))
     (rotate_left; · (simp only [Act.put, zqk, zql, zqm, i64_w, i32_w]; rfl))
     refine pure_ (i := 4) (N := some 18) (v := ?_) (a' := ?_) (zb 27 31) rfl rfl (by kernel_rfl) (fun _ _ _ h => h) (Or.inl ⟨by rfl, ?_⟩) ?_ ?_
     (rotate_left; · (intro w'; go_simp; with_reducible rfl))
     (rotate_left; · (simp only [Act.put, zqk, zql, zqm, i64_w, i32_w]; rfl))
     refine pure_ (i := 5) (N := some 19) (v := ?_) (a' := ?_) (zb 27 63) rfl rfl (by kernel_rfl) (fun _ _ _ h => h) (Or.inl ⟨by rfl, ?_⟩) ?_ ?_
     (rotate_left; · (intro w'; go_simp; with_reducible rfl))
     (rotate_left; · (simp only [Act.put, zqk, zql, zqm, i64_w, i32_w]; rfl))
     refine pure_ (i := 6) (N := some 20) (v := ?_) (a' := ?_) (zb 27 127) rfl rfl (by kernel_rfl) (fun _ _ _ h => h) (Or.inl ⟨by rfl, ?_⟩) ?_ ?_
     (rotate_left; · (intro w'; go_simp; with_reducible rfl))
     (rotate_left; · (simp only [Act.put, zqk, zql, zqm, i64_w, i32_w]; rfl))
     refine pure_ (i := 7) (N := some 21) (v := ?_) (a' := ?_) (zb 27 255) rfl rfl (by kernel_rfl) (fun _ _ _ h => h) (Or.inl ⟨by rfl, ?_⟩) ?_ ?_
     (rotate_left; · (intro w'; go_simp; with_reducible rfl))
     (rotate_left; · (simp only [Act.put, zqk, zql, zqm, i64_w, i32_w]; rfl))
     refine pure_ (i := 9) (N := some 23) (v := ?_) (a' := ?_) (zb 27 767) rfl rfl (by kernel_rfl) (fun _ _ _ h => h) (Or.inl ⟨by rfl, ?_⟩) ?_ ?_
     (rotate_left; · (intro w'; go_simp; with_reducible rfl))
     (rotate_left; · (simp only [Act.put, zqk, zql, zqm, i64_w, i32_w]; rfl))
     refine pure_ (i := 10) (N := some 24) (v := ?_) (a' := ?_) (zb 27 1791) rfl rfl (by kernel_rfl) (fun _ _ _ h => h) (Or.inl ⟨by rfl, ?_⟩) ?_ ?_
     (rotate_left; · (intro w'; go_simp; with_reducible rfl))
     (rotate_left; · (simp only [Act.put, zqk, zql, zqm, i64_w, i32_w]; rfl))
     refine pure_ (i := 14) (N := some 28) (v := ?_) (a' := ?_) (zb 27 18175) rfl rfl (by kernel_rfl) (fun _ _ _ h => h) (Or.inl ⟨by rfl, ?_⟩) ?_ ?_
     (rotate_left; · (intro w'; go_simp; with_reducible rfl))
     (rotate_left; · (simp only [Act.put, zqk, zql, zqm, i64_w, i32_w]; rfl))
     refine take_ (i := 8) (N := some 22) (v := ?_) (a' := ?_) (zb 27 18431) rfl rfl (by kernel_rfl) (fun _ _ _ h => h) (Or.inl ⟨by rfl, ?_⟩) hHeld ?_ ?_
     rotate_left
     ·rintro w' ⟨s0, s1, s2, s3, s4⟩
      go_simp
      with_reducible rfl
     (rotate_left; · (simp only [Act.put, zqk, zql, zqm, i64_w, i32_w]; rfl))
     refine pure_ (i := 11) (N := some 25) (v := ?_) (a' := ?_) (zb 27 20479) rfl rfl (by kernel_rfl) (fun _ _ _ h => h) (Or.inl ⟨by rfl, ?_⟩) ?_ ?_
     (rotate_left; · (intro w'; go_simp; with_reducible rfl))
     (rotate_left; · (simp only [Act.put, zqk, zql, zqm, i64_w, i32_w]; rfl))
     refine pure_ (i := 12) (N := some 26) (v := ?_) (a' := ?_) (zb 27 24575) rfl rfl (by kernel_rfl) (fun _ _ _ h => h) (Or.inl ⟨by rfl, ?_⟩) ?_ ?_
     (rotate_left; · (intro w'; go_simp; with_reducible rfl))
     (rotate_left; · (simp only [Act.put, zqk, zql, zqm, i64_w, i32_w]; rfl))
     refine take_ (i := 13) (N := some 27) (v := ?_) (a' := ?_) (zb 27 32767) rfl rfl (by kernel_rfl) (fun _ _ _ h => h) (Or.inl ⟨by rfl, ?_⟩) hHeld ?_ ?_
     rotate_left
     ·rintro w' ⟨s0, s1, s2, s3, s4⟩
      go_simp
      with_reducible rfl
     (rotate_left; · (simp only [Act.put, zqk, zql, zqm, i64_w, i32_w]; rfl))
     refine take_ (i := 15) (N := some 29) (v := ?_) (a' := ?_) (zb 27 65535) rfl rfl (by kernel_rfl) (fun _ _ _ h => h) (Or.inl ⟨by rfl, ?_⟩) hHeld ?_ ?_
     rotate_left
     ·rintro w' ⟨s0, s1, s2, s3, s4⟩
      go_simp
      with_reducible rfl
     (rotate_left; · (simp only [Act.put, zqk, zql, zqm, i64_w, i32_w]; rfl))
     refine pure_ (i := 16) (N := some 30) (v := ?_) (a' := ?_) (zb 27 131071) rfl rfl (by kernel_rfl) (fun _ _ _ h => h) (Or.inl ⟨by rfl, ?_⟩) ?_ ?_
     (rotate_left; · (intro w'; go_simp; with_reducible rfl))
     (rotate_left; · (simp only [Act.put, zqk, zql, zqm, i64_w, i32_w]; rfl))
     refine pure_ (i := 17) (N := some 31) (v := ?_) (a' := ?_) (zb 27 262143) rfl rfl (by kernel_rfl) (fun _ _ _ h => h) (Or.inl ⟨by rfl, ?_⟩) ?_ ?_
     (rotate_left; · (intro w'; go_simp; with_reducible rfl))
     (rotate_left; · (simp only [Act.put, zqk, zql, zqm, i64_w, i32_w]; rfl))
     refine pure_ (i := 18) (N := some 32) (v := ?_) (a' := ?_) (zb 27 524287) rfl rfl (by kernel_rfl) (fun _ _ _ h => h) (Or.inl ⟨by rfl, ?_⟩) ?_ ?_
     (rotate_left; · (intro w'; go_simp; with_reducible rfl))
     (rotate_left; · (simp only [Act.put, zqk, zql, zqm, i64_w, i32_w]; rfl))
     refine pure_ (i := 19) (N := some 33) (v := ?_) (a' := ?_) (zb 27 1048575) rfl rfl (by kernel_rfl) (fun _ _ _ h => h) (Or.inl ⟨by rfl, ?_⟩) ?_ ?_
     (rotate_left; · (intro w'; go_simp; with_reducible rfl))
     (rotate_left; · (simp only [Act.put, zqk, zql, zqm, i64_w, i32_w]; rfl))
     refine pure_ (i := 20) (N := some 34) (v := ?_) (a' := ?_) (zb 27 2097151) rfl rfl (by kernel_rfl) (fun _ _ _ h => h) (Or.inl ⟨by rfl, ?_⟩) ?_ ?_
     (rotate_left; · (intro w'; go_simp; with_reducible rfl))
     (rotate_left; · (simp only [Act.put, zqk, zql, zqm, i64_w, i32_w]; rfl))
     refine pure_ (i := 22) (N := some 36) (v := ?_) (a' := ?_) (zb 27 6291455) rfl rfl (by kernel_rfl) (fun _ _ _ h => h) (Or.inl ⟨by rfl, ?_⟩) ?_ ?_
     (rotate_left; · (intro w'; go_simp; with_reducible rfl))
     (rotate_left; · (simp only [Act.put, zqk, zql, zqm, i64_w, i32_w]; rfl))
     refine take_ (i := 21) (N := some 35) (v := ?_) (a' := ?_) (zb 27 8388607) rfl rfl (by kernel_rfl) (fun _ _ _ h => h) (Or.inl ⟨by rfl, ?_⟩) hHeld ?_ ?_
     rotate_left
     ·rintro w' ⟨s0, s1, s2, s3, s4⟩
      go_simp
      with_reducible rfl
     (rotate_left; · (simp only [Act.put, zqk, zql, zqm, i64_w, i32_w]; rfl))
     refine take_ (i := 23) (N := some 37) (v := ?_) (a' := ?_) (zb 27 16777215) rfl rfl (by kernel_rfl) (fun _ _ _ h => h) (Or.inl ⟨by rfl, ?_⟩) hHeld ?_ ?_
     rotate_left
     ·rintro w' ⟨s0, s1, s2, s3, s4⟩
      go_simp
      with_reducible rfl
     (rotate_left; · (simp only [Act.put, zqk, zql, zqm, i64_w, i32_w]; rfl))
     refine one_ (i := 24) (N := some 38) (zb 27 33554431) rfl rfl (by kernel_rfl) (by decide) (fun K hK => ?_)
     refine goes_ Try.func35 (by kernel_rfl) rfl #[.slice A2 C.f1.length c2, .int .i64 st, .func (.func 32) #[] #[]] (by rfl) rfl rfl (by simp only [List.map_toArray, List.map_cons, List.map_nil]; rfl) ?_
     with_reducible refine ((HRI.out _ HBD.out)).mono ?_
     rintro e w5 ⟨rfl, hb5⟩
     refine ⟨_, rfl, ?_⟩
     have HB5 := Lib.hid hb5
     have HC5 := Lib.hid (And.intro ((hb5.cell (World.block_lt_of_cell? _ _ HD4.out.1)).trans HD4.out.1) (And.intro ((hb5.cell (World.block_lt_of_cell? _ _ HD4.out.2)).trans HD4.out.2) (And.intro ((hb5.cell (World.block_lt_of_cell? _ _ HD0.out.1)).trans HD0.out.1) ((hb5.cell (World.block_lt_of_cell? _ _ HD0.out.2)).trans HD0.out.2))))
     have HY5 := Lib.hid ((hb5.cell (World.block_lt_of_cell? _ _ HDY.out)).trans HDY.out)
     clear hb5
     refine hK.out _ _ ⟨HC5.out.2.2.1, HC5.out.2.2.2, HC5.out.1, HC5.out.2.1, HY5.out⟩ (fun hHeld => ?_)
     clear hK K
     refine norm_ (a' := ?_) ?_ ?_
     rotate_left
     ·show Act.put _ (some 38) _ = _
      simp only [Act.put, zqk, zql, zqm, i64_w, i32_w]
      rfl
     refine pure_ (i := 25) (N := some 39) (v := ?_) (a' := ?_) (zb 27 67108863) rfl rfl (by kernel_rfl) (fun _ _ _ h => h) (Or.inl ⟨by rfl, ?_⟩) ?_ ?_
     (rotate_left; · (intro w'; go_simp; with_reducible rfl))
     (rotate_left; · (simp only [Act.put, zqk, zql, zqm, i64_w, i32_w]; rfl))
     refine pure_ (i := 26) (N := some 40) (v := ?_) (a' := ?_) (zb 27 134217727) rfl rfl (by kernel_rfl) (fun _ _ _ h => h) (Or.inl ⟨by rfl, ?_⟩) ?_ ?_
     (rotate_left; · (intro w'; go_simp; with_reducible rfl))
     (rotate_left; · (simp only [Act.put, zqk, zql, zqm, i64_w, i32_w]; rfl))
     refine done_ (by kernel_rfl) ?_
     have HBX5 := Lib.hid (below_then HB.out HB.out.size (below_then HBD.out HBD.out.size HB5.out))
     have HBB5 := Lib.hid (below_then HBW.out HBW.out.size (below_then HBD.out HBD.out.size HB5.out))
     have HBR5 := Lib.hid (below_then HBD.out HBD.out.size HB5.out)
     have k0 := HC5.out.1; have k1 := HC5.out.2.1; have k2 := HC5.out.2.2.1
     clear h40 h00 z0 z1 z2 x0 x1
     cases rr
     ·have HG2 : Hid (F = false) := Lib.hid (by rw [HF.out, HST.out, HCB.out, HD1.out]; rfl)
      go_wp2_with fail
      go_ret
      exact ⟨by rw [HG2.out]; rfl, HBB5.out⟩
     ·go_wp2_with fail
      refine (HCF.out w5 HBR5.out HC5.out.1).mono ?_
      rintro e w6 ⟨rfl, hb6⟩
      have HBX6 := Lib.hid (below_then HBX5.out HBX5.out.size hb6)
      have HBB6 := Lib.hid (below_then HBB5.out HBB5.out.size hb6)
      clear hb6 k0 k1 k2
      cases ow
      ·have HG2 : Hid (F = false) := Lib.hid (by rw [HF.out, HST.out, HCB.out, HD1.out]; rfl)
       go_wp2_with fail
       go_ret
       exact ⟨by rw [HG2.out]; rfl, HBB6.out⟩
      ·have HG2 : Hid (G = chainsGo st (prevOf (l0.map fun c => c.f0) (i + 1)) (l0.drop (i + 1))) := Lib.hid (by rw [HST.out, HCB.out, HD1.out, HOK.out]; rfl)
       go_wp2_with fail
       go_roundg g
       case measure => have := HI2.out; omega
       case rel => exact ⟨i + 1, (by first | rw [HW.out] | rfl | (congr 1; omega)), Lib.hid ⟨by omega, by have := HI2.out; omega, HG2.out⟩, HBX6⟩
   ·have D3 : decide (0 < i) = false := decide_eq_false d3
    have D3i : decide (0 < (i : Int)) = false := decide_eq_false (by omega)
    have HOK : Hid (okP (prevOf (l0.map fun c => c.f0) i) C.f0 = true) := Lib.hid (by rw [show i = 0 by omega]; rfl)
    go_wp2_with fail
    rw [← HW4.out]
    refine start_ (n := 27) (S := fun w' => w'.cell? ⟨w.heap.size, 0, none⟩ = some (.slice (some ad) l0.length c0) ∧ w'.cell? ⟨w.heap.size, 2, none⟩ = some (.int .i64 st) ∧ w'.cell? ⟨wr.heap.size, 0, none⟩ = some (.int .i64 C.f0) ∧ w'.cell? ⟨wr.heap.size, 1, none⟩ = some (.slice A2 C.f1.length c2)) (ds := []) #[false, false, false, false, false, false, false, false, false, false, false, false, false, false, false, false, false, false, false, false, false, false, false, false, false, false, false] (by kernel_rfl) rfl rfl ⟨HD0.out.1, HD0.out.2, HD4.out.1, HD4.out.2⟩ (fun hHeld => ?_)
    refine pure_ (i := 0) (N := some 14) (v := ?_) (a' := ?_) (zb 27 1) rfl rfl (by kernel_rfl) (fun _ _ _ h => h) (Or.inl ⟨by rfl, ?_⟩) ?_ ?_
    (rotate_left; · (intro w'; go_simp; with_reducible rfl))
    (rotate_left; · (simp only [Act.put, zqk, zql, zqm, i64_w, i32_w]; rfl))
    refine take_ (i := 1) (N := some 15) (v := ?_) (a' := ?_) (zb 27 3) rfl rfl (by kernel_rfl) (fun _ _ _ h => h) (Or.inl ⟨by rfl, ?_⟩) hHeld ?_ ?_
    rotate_left
    ·rintro w' ⟨s0, s1, s2, s3⟩
     go_simp
     with_reducible rfl
    (rotate_left; · (simp only [Act.put, zqk, zql, zqm, i64_w, i32_w]; rfl))
    refine pure_ (i := 2) (N := some 16) (v := ?_) (a' := ?_) (zb 27 7) rfl rfl (by kernel_rfl) (fun _ _ _ h => h) (Or.inl ⟨by rfl, ?_⟩) ?_ ?_
    (rotate_left; · (intro w'; go_simp; with_reducible rfl))
    (rotate_left; · (simp only [Act.put, zqk, zql, zqm, i64_w, i32_w]; rfl))
    refine pure_ (i := 3) (N := some 17) (v := ?_) (a' := ?_) (zb 27 15) rfl rfl (by kernel_rfl) (fun _ _ _ h => h) (Or.inl ⟨by rfl, ?_⟩) ?_ ?_
    (rotate_left; · (intro w'; go_simp; with_reducible rfl))
    (rotate_left; · (simp only [Act.put, zqk, zql, zqm, i64_w, i32_w]; rfl))
    refine pure_ (i := 4) (N := some 18) (v := ?_) (a' := ?_) (zb 27 31) rfl rfl (by kernel_rfl) (fun _ _ _ h => h) (Or.inl ⟨by rfl, ?_⟩) ?_ ?_
    (rotate_left; · (intro w'; go_simp; with_reducible rfl))
    (rotate_left; · (simp only [Act.put, zqk, zql, zqm, i64_w, i32_w]; rfl))
    refine pure_ (i := 5) (N := some 19) (v := ?_) (a' := ?_) (zb 27 63) rfl rfl (by kernel_rfl) (fun _ _ _ h => h) (Or.inl ⟨by rfl, ?_⟩) ?_ ?_
    (rotate_left; · (intro w'; go_simp; with_reducible rfl))
    (rotate_left; · (simp only [Act.put, zqk, zql, zqm, i64_w, i32_w]; rfl))
    refine pure_ (i := 6) (N := some 20) (v := ?_) (a' := ?_) (zb 27 127) rfl rfl (by kernel_rfl) (fun _ _ _ h => h) (Or.inl ⟨by rfl, ?_⟩) ?_ ?_
    (rotate_left; · (intro w'; go_simp; with_reducible rfl))
    (rotate_left; · (simp only [Act.put, zqk, zql, zqm, i64_w, i32_w]; rfl))
    refine pure_ (i := 7) (N := some 21) (v := undef) (a' := ?_) (zb 27 255) rfl rfl (by kernel_rfl) (fun _ _ _ h => h) (Or.inr ⟨by rfl, rfl⟩) ?_ ?_
    (rotate_left; · (simp only [Act.put, zqk, zql, zqm, i64_w, i32_w]; rfl))
    refine pure_ (i := 8) (N := some 22) (v := undef) (a' := ?_) (zb 27 511) rfl rfl (by kernel_rfl) (fun _ _ _ h => h) (Or.inr ⟨by rfl, rfl⟩) ?_ ?_
    (rotate_left; · (simp only [Act.put, zqk, zql, zqm, i64_w, i32_w]; rfl))
    refine pure_ (i := 9) (N := some 23) (v := undef) (a' := ?_) (zb 27 1023) rfl rfl (by kernel_rfl) (fun _ _ _ h => h) (Or.inr ⟨by rfl, rfl⟩) ?_ ?_
    (rotate_left; · (simp only [Act.put, zqk, zql, zqm, i64_w, i32_w]; rfl))
    refine pure_ (i := 10) (N := some 24) (v := undef) (a' := ?_) (zb 27 2047) rfl rfl (by kernel_rfl) (fun _ _ _ h => h) (Or.inr ⟨by rfl, rfl⟩) ?_ ?_
    (rotate_left; · (simp only [Act.put, zqk, zql, zqm, i64_w, i32_w]; rfl))
    refine pure_ (i := 11) (N := some 25) (v := undef) (a' := ?_) (zb 27 4095) rfl rfl (by kernel_rfl) (fun _ _ _ h => h) (Or.inr ⟨by rfl, rfl⟩) ?_ ?_
    (rotate_left; · (simp only [Act.put, zqk, zql, zqm, i64_w, i32_w]; rfl))
    refine pure_ (i := 12) (N := some 26) (v := undef) (a' := ?_) (zb 27 8191) rfl rfl (by kernel_rfl) (fun _ _ _ h => h) (Or.inr ⟨by rfl, rfl⟩) ?_ ?_
    (rotate_left; · (simp only [Act.put, zqk, zql, zqm, i64_w, i32_w]; rfl))
    refine pure_ (i := 13) (N := some 27) (v := undef) (a' := ?_) (zb 27 16383) rfl rfl (by kernel_rfl) (fun _ _ _ h => h) (Or.inr ⟨by rfl, rfl⟩) ?_ ?_
    (rotate_left; · (simp only [Act.put, zqk, zql, zqm, i64_w, i32_w]; rfl))
    refine pure_ (i := 14) (N := some 28) (v := undef) (a' := ?_) (zb 27 32767) rfl rfl (by kernel_rfl) (fun _ _ _ h => h) (Or.inr ⟨by rfl, rfl⟩) ?_ ?_
    (rotate_left; · (simp only [Act.put, zqk, zql, zqm, i64_w, i32_w]; rfl))
    refine pure_ (i := 15) (N := some 29) (v := undef) (a' := ?_) (zb 27 65535) rfl rfl (by kernel_rfl) (fun _ _ _ h => h) (Or.inr ⟨by rfl, rfl⟩) ?_ ?_
    (rotate_left; · (simp only [Act.put, zqk, zql, zqm, i64_w, i32_w]; rfl))
    refine pure_ (i := 16) (N := some 30) (v := undef) (a' := ?_) (zb 27 131071) rfl rfl (by kernel_rfl) (fun _ _ _ h => h) (Or.inr ⟨by rfl, rfl⟩) ?_ ?_
    (rotate_left; · (simp only [Act.put, zqk, zql, zqm, i64_w, i32_w]; rfl))
    refine pure_ (i := 17) (N := some 31) (v := ?_) (a' := ?_) (zb 27 262143) rfl rfl (by kernel_rfl) (fun _ _ _ h => h) (Or.inl ⟨by rfl, ?_⟩) ?_ ?_
    (rotate_left; · (intro w'; go_simp; with_reducible rfl))
    (rotate_left; · (simp only [Act.put, zqk, zql, zqm, i64_w, i32_w]; rfl))
    refine pure_ (i := 18) (N := some 32) (v := ?_) (a' := ?_) (zb 27 524287) rfl rfl (by kernel_rfl) (fun _ _ _ h => h) (Or.inl ⟨by rfl, ?_⟩) ?_ ?_
    (rotate_left; · (intro w'; go_simp; with_reducible rfl))
    (rotate_left; · (simp only [Act.put, zqk, zql, zqm, i64_w, i32_w]; rfl))
    refine pure_ (i := 19) (N := some 33) (v := ?_) (a' := ?_) (zb 27 1048575) rfl rfl (by kernel_rfl) (fun _ _ _ h => h) (Or.inl ⟨by rfl, ?_⟩) ?_ ?_
    (rotate_left; · (intro w'; go_simp; with_reducible rfl))
    (rotate_left; · (simp only [Act.put, zqk, zql, zqm, i64_w, i32_w]; rfl))
    refine pure_ (i := 20) (N := some 34) (v := ?_) (a' := ?_) (zb 27 2097151) rfl rfl (by kernel_rfl) (fun _ _ _ h => h) (Or.inl ⟨by rfl, ?_⟩) ?_ ?_
    (rotate_left; · (intro w'; go_simp; with_reducible rfl))
    (rotate_left; · (simp only [Act.put, zqk, zql, zqm, i64_w, i32_w]; rfl))
    refine pure_ (i := 22) (N := some 36) (v := ?_) (a' := ?_) (zb 27 6291455) rfl rfl (by kernel_rfl) (fun _ _ _ h => h) (Or.inl ⟨by rfl, ?_⟩) ?_ ?_
    (rotate_left; · (intro w'; go_simp; with_reducible rfl))
    (rotate_left; · (simp only [Act.put, zqk, zql, zqm, i64_w, i32_w]; rfl))
    refine take_ (i := 21) (N := some 35) (v := ?_) (a' := ?_) (zb 27 8388607) rfl rfl (by kernel_rfl) (fun _ _ _ h => h) (Or.inl ⟨by rfl, ?_⟩) hHeld ?_ ?_
    rotate_left
    ·rintro w' ⟨s0, s1, s2, s3⟩
     go_simp
     with_reducible rfl
    (rotate_left; · (simp only [Act.put, zqk, zql, zqm, i64_w, i32_w]; rfl))
    refine take_ (i := 23) (N := some 37) (v := ?_) (a' := ?_) (zb 27 16777215) rfl rfl (by kernel_rfl) (fun _ _ _ h => h) (Or.inl ⟨by rfl, ?_⟩) hHeld ?_ ?_
    rotate_left
    ·rintro w' ⟨s0, s1, s2, s3⟩
     go_simp
     with_reducible rfl
    (rotate_left; · (simp only [Act.put, zqk, zql, zqm, i64_w, i32_w]; rfl))
    refine one_ (i := 24) (N := some 38) (zb 27 33554431) rfl rfl (by kernel_rfl) (by decide) (fun K hK => ?_)
    refine goes_ Try.func35 (by kernel_rfl) rfl #[.slice A2 C.f1.length c2, .int .i64 st, .func (.func 32) #[] #[]] (by rfl) rfl rfl (by simp only [List.map_toArray, List.map_cons, List.map_nil]; rfl) ?_
    with_reducible refine ((HRI.out _ HBD.out)).mono ?_
    rintro e w5 ⟨rfl, hb5⟩
    refine ⟨_, rfl, ?_⟩
    have HB5 := Lib.hid hb5
    have HC5 := Lib.hid (And.intro ((hb5.cell (World.block_lt_of_cell? _ _ HD4.out.1)).trans HD4.out.1) (And.intro ((hb5.cell (World.block_lt_of_cell? _ _ HD4.out.2)).trans HD4.out.2) (And.intro ((hb5.cell (World.block_lt_of_cell? _ _ HD0.out.1)).trans HD0.out.1) ((hb5.cell (World.block_lt_of_cell? _ _ HD0.out.2)).trans HD0.out.2))))
    clear hb5
    refine hK.out _ _ ⟨HC5.out.2.2.1, HC5.out.2.2.2, HC5.out.1, HC5.out.2.1⟩ (fun hHeld => ?_)
    clear hK K
    refine norm_ (a' := ?_) ?_ ?_
    rotate_left
    ·show Act.put _ (some 38) _ = _
     simp only [Act.put, zqk, zql, zqm, i64_w, i32_w]
     rfl
    refine pure_ (i := 25) (N := some 39) (v := ?_) (a' := ?_) (zb 27 67108863) rfl rfl (by kernel_rfl) (fun _ _ _ h => h) (Or.inl ⟨by rfl, ?_⟩) ?_ ?_
    (rotate_left; · (intro w'; go_simp; with_reducible rfl))
    (rotate_left; · (simp only [Act.put, zqk, zql, zqm, i64_w, i32_w]; rfl))
    refine pure_ (i := 26) (N := some 40) (v := ?_) (a' := ?_) (zb 27 134217727) rfl rfl (by kernel_rfl) (fun _ _ _ h => h) (Or.inl ⟨by rfl, ?_⟩) ?_ ?_
    (rotate_left; · (intro w'; go_simp; with_reducible rfl))
    (rotate_left; · (simp only [Act.put, zqk, zql, zqm, i64_w, i32_w]; rfl))
    refine done_ (by kernel_rfl) ?_
    have HBX5 := Lib.hid (below_then HB.out HB.out.size (below_then HBD.out HBD.out.size HB5.out))
    have HBB5 := Lib.hid (below_then HBW.out HBW.out.size (below_then HBD.out HBD.out.size HB5.out))
    have HBR5 := Lib.hid (below_then HBD.out HBD.out.size HB5.out)
    have k0 := HC5.out.1; have k1 := HC5.out.2.1; have k2 := HC5.out.2.2.1
    clear h40 h00 z0 z1 z2 x0 x1
    cases rr
    ·have HG2 : Hid (F = false) := Lib.hid (by rw [HF.out, HST.out, HCB.out, HD1.out]; rfl)
     go_wp2_with fail
     go_ret
     exact ⟨by rw [HG2.out]; rfl, HBB5.out⟩
    ·go_wp2_with fail
     refine (HCF.out w5 HBR5.out HC5.out.1).mono ?_
     rintro e w6 ⟨rfl, hb6⟩
     have HBX6 := Lib.hid (below_then HBX5.out HBX5.out.size hb6)
     have HBB6 := Lib.hid (below_then HBB5.out HBB5.out.size hb6)
     clear hb6 k0 k1 k2
     cases ow
     ·have HG2 : Hid (F = false) := Lib.hid (by rw [HF.out, HST.out, HCB.out, HD1.out]; rfl)
      go_wp2_with fail
      go_ret
      exact ⟨by rw [HG2.out]; rfl, HBB6.out⟩
     ·have HG2 : Hid (G = chainsGo st (prevOf (l0.map fun c => c.f0) (i + 1)) (l0.drop (i + 1))) := Lib.hid (by rw [HST.out, HCB.out, HD1.out, HOK.out]; rfl)
      go_wp2_with fail
      go_roundg g
      case measure => have := HI2.out; omega
      case rel => exact ⟨i + 1, (by first | rw [HW.out] | rfl | (congr 1; omega)), Lib.hid ⟨by omega, by have := HI2.out; omega, HG2.out⟩, HBX6⟩
  ·have q3 : decide (i < l0.length) = false := decide_eq_false c1_
   have q3i : decide ((i : Int) < (l0.length : Int)) = false := decide_eq_false (by omega)
   have HG2 : Hid (G = true) := Lib.hid (by rw [hi3, List.drop_eq_nil_of_le (by omega), chainsGo])
   clear hi3 hi1 hi2 c1_
   go_wp2_with fail
   refine (HAN.out _ HBW.out).mono ?_
   rintro e w5 ⟨rfl, hb5⟩
   have z5 := cell_keep z1 hb5; have z6 := cell_keep z2 hb5
   have HBB := Lib.hid (below_then HBW.out HBW.out.size hb5)
   clear hb5 z0 z1 z2
   by_cases d1 : 1 ≤ st
   ·have D1 : decide (1 ≤ st) = true := decide_eq_true d1
    have HF3 : Hid (F = (!an && rn)) := Lib.hid (by rw [HF.out, HG2.out, D1]; rfl)
    clear d1
    cases an
    ·go_wp2_with fail
     refine (HRN.out _ HBB.out).mono ?_
     rintro e w6 ⟨rfl, hb6⟩
     have HB6 := Lib.hid (below_then HBB.out HBB.out.size hb6)
     clear hb6
     go_wp2_with fail
     go_ret
     exact ⟨by rw [HF3.out]; rfl, HB6.out⟩
    ·go_wp2_with fail
     go_ret
     exact ⟨by rw [HF3.out]; rfl, HBB.out⟩
   ·have D1 : decide (1 ≤ st) = false := decide_eq_false d1
    have HF3 : Hid (F = false) := Lib.hid (by rw [HF.out, HG2.out, D1]; rfl)
    clear d1
    go_wp2_with fail
    go_ret
    exact ⟨by rw [HF3.out]; rfl, HBB.out⟩
def store_Right.f (l0_0 : List S55) (l0_1 : List S61) (a0_2 : Int) : Option Bool := if smallS l0_0 l0_1 = true then some (storeR l0_0 l0_1 a0_2) else none
theorem store_Right.calls (A0_0 : Option Addr) (c0_0 : Nat) (l0_0 : List S55) (A0_1 : Option Addr) (c0_1 : Nat) (l0_1 : List S61) (a0_2 : Int) (r : Bool) (w : World)
  (hr0_0 : Kd.C k55 w A0_0 l0_0.length l0_0) (hc0_0 : l0_0.length ≤ c0_0) (hr0_1 : Kd.C k61 w A0_1 l0_1.length l0_1) (hc0_1 : l0_1.length ≤ c0_1) (h : store_Right.f l0_0 l0_1 a0_2 = some r) :
  Calls Try.prog 14 #[.agg #[.slice A0_0 l0_0.length c0_0, .slice A0_1 l0_1.length c0_1, .int .i64 a0_2]] w fun e w' => e = .returned (.bool r) ∧ Below w.heap.size w w' := by
 unfold store_Right.f at h
 split at h
 ·rename_i hs
  obtain rfl := Option.some.inj h
  exact right_calls A0_0 c0_0 l0_0 A0_1 c0_1 l0_1 a0_2 w hr0_0 hr0_1 hc0_1 hs
 ·cases h
end Go.Proofs.Ytdkgkiemndlneaa
end

section
namespace Go.Proofs.Ytdkgkiemndlneaa.Y
open Go.RowKit Go.Proofs.YtdkgkiemndlneaaW.PrintWords Go.Proofs.YtdkgkiemndlneaaW.PrintLast Go.Proofs.YtdkgkiemndlneaaW.PrintMore
open Go.Proofs.Ytdkgkiemndlneaa.Q
attribute [local go_sem] max2_int min2_int max_two min_two max_three min_three max_four min_four   -- for this text's walks alone
attribute [local go_sem high] Go.Proofs.Ytdkgkiemndlneaa.px_xor_u8 Go.Proofs.Ytdkgkiemndlneaa.px_xor_u16 Go.Proofs.Ytdkgkiemndlneaa.px_xor_u32 Go.Proofs.Ytdkgkiemndlneaa.px_xor_u64
def errW : Option Int → Value
  | none => .nilIface
  | some c => .iface 0 (.int .i64 c)
theorem errW_none : errW none = .nilIface := rfl
theorem errW_some (c : Int) : errW (some c) = .iface 0 (.int .i64 c) := rfl
end Go.Proofs.Ytdkgkiemndlneaa.Y
end

section
namespace Go.Proofs.Ytdkgkiemndlneaa.Y
open Go.RowKit Go.Proofs.YtdkgkiemndlneaaW.PrintWords Go.Proofs.YtdkgkiemndlneaaW.PrintLast Go.Proofs.YtdkgkiemndlneaaW.PrintMore
open Go.Proofs.Ytdkgkiemndlneaa.Q
attribute [local go_sem] max2_int min2_int max_two min_two max_three min_three max_four min_four   -- for this text's walks alone
open Go.Proofs.Ytdkgkiemndlneaa.X
attribute [local go_sem high] Go.Proofs.Ytdkgkiemndlneaa.px_xor_u8 Go.Proofs.Ytdkgkiemndlneaa.px_xor_u16 Go.Proofs.Ytdkgkiemndlneaa.px_xor_u32 Go.Proofs.Ytdkgkiemndlneaa.px_xor_u64
theorem eqA61 (d : Nat) (w : World) (x0 y0 : Int) (x1 y1 : Int) :
    (Op.equalIn (d + 2) 61 (.agg #[.int .i64 x0, .int .i64 x1]) (.agg #[.int .i64 y0, .int .i64 y1])).run Try.prog w = .ok (x0 == y0 && (x1 == y1)) w := by
  refine eqA_of Try.underlying61 (by kernel_rfl) ?_
  refine eqf_cons (by rfl) (by go_simp; rfl) (by go_simp; rfl) (by go_simp) ?_
  exact eqf_last (by rfl) (by go_simp; rfl) (by go_simp; rfl) (by go_simp)
end Go.Proofs.Ytdkgkiemndlneaa.Y
end
