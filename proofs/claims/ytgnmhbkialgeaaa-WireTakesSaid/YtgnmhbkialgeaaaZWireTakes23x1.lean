import Derived.Test.YtgnmhbkialgeaaaZWireTakes22
import Derived.Shelf.Abstract
import Derived.ScopeJumps
import Derived.Test.YtgnmhbkialgeaaaProg
import Derived.Below
import Derived.Deep.Draws
import Derived.Deep.AppendLies
import Derived.Maps.AppendAt
import Derived.OwnWalk
import Derived.Laws.BytesArg
import Derived.Laws.MakeOwn
import Derived.Laws.OwnMore
import Derived.Deep.OwnRows
import Derived.Tactics
import Derived.Lib.ConvBytes
import Derived.Laws.Slices
import Derived.WalkKit
import Derived.KernelRfl
import Derived.RowKit3
import Derived.Deep.LoopGhost
import Derived.Deep.QuietTactic
import Derived.BigQuiet
import Derived.WideLaws
import Derived.Deep.DeepCutAuto
import Derived.Deep.CutBlock
import Derived.Deep.RegionHeld3
import Derived.Laws.Rows
import Derived.Lib.AppendStr
import Derived.ArgAppend
import Derived.Laws.IdiomCopy
import Derived.OrdersHeld
import Derived.Laws.BitsLemmas
import Derived.RowKit
import Derived.Test.YtgnmhbkialgeaaaZWireTakes1
import Derived.Test.YtgnmhbkialgeaaaZWireTakes0
import Derived.Test.YtgnmhbkialgeaaaZWireTakes2
import Derived.Test.YtgnmhbkialgeaaaZWireTakes3
import Derived.Test.YtgnmhbkialgeaaaZWireTakes4
import Derived.Test.YtgnmhbkialgeaaaZWireTakes5
import Derived.Test.YtgnmhbkialgeaaaZWireTakes6
import Derived.Test.YtgnmhbkialgeaaaZWireTakes7
import Derived.Test.YtgnmhbkialgeaaaZWireTakes8
import Derived.Test.YtgnmhbkialgeaaaZWireTakes9
import Derived.Test.YtgnmhbkialgeaaaZWireTakes10
import Derived.Test.YtgnmhbkialgeaaaZWireTakes11
import Derived.Test.YtgnmhbkialgeaaaZWireTakes12
import Derived.Test.YtgnmhbkialgeaaaZWireTakes13
import Derived.Test.YtgnmhbkialgeaaaZWireTakes14
import Derived.Test.YtgnmhbkialgeaaaZWireTakes15
import Derived.Test.YtgnmhbkialgeaaaZWireTakes16
import Derived.Test.YtgnmhbkialgeaaaZWireTakes17
import Derived.Test.YtgnmhbkialgeaaaZWireTakes18
import Derived.Test.YtgnmhbkialgeaaaZWireTakes19
import Derived.Test.YtgnmhbkialgeaaaZWireTakes20
import Derived.Test.YtgnmhbkialgeaaaZWireTakes21
import Derived.Test.YtgnmhbkialgeaaaZWireTakes23x0

section
/- The machine's side of laws of this seat: Go functions as Lean functions, and the proof that a call of each comes to what its function says (written by a program of this session, px.py, that runs the kit's print). -/
namespace Go.Proofs.Ytgnmhbkialgeaaa.Q
open Go.RowKit Go.Proofs.YtgnmhbkialgeaaaW.PrintWords Go.Proofs.YtgnmhbkialgeaaaW.PrintLast Go.Proofs.YtgnmhbkialgeaaaW.PrintMore
attribute [local go_sem] max2_int min2_int max_two min_two max_three min_three max_four min_four   -- for this text's walks alone
attribute [local go_sem high] Go.Proofs.Ytgnmhbkialgeaaa.px_xor_u8 Go.Proofs.Ytgnmhbkialgeaaa.px_xor_u16 Go.Proofs.Ytgnmhbkialgeaaa.px_xor_u32 Go.Proofs.Ytgnmhbkialgeaaa.px_xor_u64
set_option linter.unusedVariables false
set_option linter.unusedSimpArgs false

/-! ### copyholdref01_Strings: function 53 -/
def copyholdref01_Strings.l0 : Nat → List ByteArray → List ByteArray → Int → Option (Bool)
 | 0, _, _, _ => none
 | k + 1, x0, x1, x5 => if x5 < (x0.length : Int) then (if 0 ≤ x5 then (if x5 < (x1.length : Int) then (if (rdOf ByteArray.empty x0 x5).toList = (rdOf ByteArray.empty x1 x5).toList then (copyholdref01_Strings.l0 k x0 x1 (wrap64 (x5 + 1))) else (some false)) else (none)) else (none)) else (some true)
def copyholdref01_Strings.f (k : Nat) (l0 : List ByteArray) (l1 : List ByteArray) : Option (Bool) := if (l0.length : Int) = (l1.length : Int) then (copyholdref01_Strings.l0 k l0 l1 0) else (some false)
theorem copyholdref01_Strings.mono_l : ∀ k, (∀ y0 y1 y2, LeO (copyholdref01_Strings.l0 k y0 y1 y2) (copyholdref01_Strings.l0 (k + 1) y0 y1 y2))
 | 0 => fun _ _ _ r h => by simp [copyholdref01_Strings.l0] at h
 | k + 1 => by
  have ih0 := copyholdref01_Strings.mono_l k
  ·intro y0 y1 y2
   unfold copyholdref01_Strings.l0
   repeat' first
   | (with_reducible exact ih0 _ _ _)
   | (with_reducible exact LeO.refl _)
   | (with_reducible exact LeO.none _)
   | (with_reducible refine LeO.ite ?_ ?_)
   | (with_reducible refine LeO.bind ?_ (fun _ => ?_))
   | exact ih0 _ _ _
   | exact LeO.none _
   | refine LeO.ite ?_ ?_
   | refine LeO.bind ?_ (fun _ => ?_)
theorem copyholdref01_Strings.mono : ∀ a0 a1 k, LeO (copyholdref01_Strings.f k a0 a1) (copyholdref01_Strings.f (k + 1) a0 a1) := by
 intro a0 a1 k
 have ih0 := copyholdref01_Strings.mono_l k
 unfold copyholdref01_Strings.f
 repeat' first
   | (with_reducible exact ih0 _ _ _)
   | (with_reducible exact LeO.refl _)
   | (with_reducible exact LeO.none _)
   | (with_reducible refine LeO.ite ?_ ?_)
   | (with_reducible refine LeO.bind ?_ (fun _ => ?_))
   | exact ih0 _ _ _
   | exact LeO.none _
   | refine LeO.ite ?_ ?_
   | refine LeO.bind ?_ (fun _ => ?_)
set_option maxHeartbeats 8000000 in
set_option maxRecDepth 100000 in
theorem copyholdref01_Strings.calls (k : Nat) (A0 : Option Addr) (c0 : Nat) (l0 : List ByteArray) (A1 : Option Addr) (c1 : Nat) (l1 : List ByteArray) (r : Bool) (w : World) (hr0 : Kd.C Kd.string w A0 l0.length l0) (hc0 : l0.length ≤ c0) (hr1 : Kd.C Kd.string w A1 l1.length l1) (hc1 : l1.length ≤ c1) (h : copyholdref01_Strings.f k l0 l1 = some r) :
  Calls Try.prog 53 #[.slice A0 l0.length c0, .slice A1 l1.length c1] w fun e w' => e = .returned (.bool r) ∧ Drawn0 w w' := by
 have HR0 := Aside0.mk hr0
 have HC0 := Aside0.mk hc0
 clear hr0 hc0
 have HR1 := Aside0.mk hr1
 have HC1 := Aside0.mk hc1
 clear hr1 hc1
 have H : (if (l0.length : Int) = (l1.length : Int) then (copyholdref01_Strings.l0 k l0 l1 0) else (some false)) = some r := h
 clear h
 by_cases c3 : (l0.length : Int) = (l1.length : Int)
 ·rw [if_pos c3] at H
  have c3b0 : ((l0.length : Int) == (l1.length : Int)) = true := beq_iff_eq.mpr c3
  have c3b1 : ((l0.length : Int) != (l1.length : Int)) = false := bne_eq_false_iff_eq.mpr c3
  have c3b2 : (l0.length == l1.length) = true := by first | simpa using c3 | (simp at c3 ⊢; omega)
  clear c3
  have H' := Aside0.mk H
  clear H
  go_enter Try.func53, Try.ntmps53
  go_wp2
  repeat (go_quiet (fail); try go_wp2)
  go_loopg [5] k (fun kq v5 w' => ∃ (x5_1 : Int), v5 = .int .i64 x5_1 ∧ Aside0 (copyholdref01_Strings.l0 kq l0 l1 x5_1 = some r) ∧ Aside0 (kq ≤ k) ∧ Drawn0 w w')
  case atStart => exact ⟨(0), (by first | rfl | (simp; done) | (simp [*]; done)), H', ⟨Nat.le_refl _⟩, by repeat (first | exact Drawn0.refl _ | apply Drawn0.step)⟩
  case round =>
   clear H'
   ((try clear c1); (try clear p2); (try clear c3); (try clear c3b0); (try clear c3b1); (try clear c3b2))
   obtain ⟨x5_1, rfl, HA, HK1, ⟨m1, rfl⟩⟩ := hrel
   cases gk with
   | zero => exact absurd HA.out (by simp [copyholdref01_Strings.l0])
   | succ k1 =>
    (have H := HA.out; clear HA)
    simp only [copyholdref01_Strings.l0] at H
    by_cases c4 : x5_1 < (l0.length : Int)
    ·rw [if_pos c4] at H
     have c4b0 : decide (x5_1 < (l0.length : Int)) = true := decide_eq_true c4
     clear c4
     by_cases c5 : 0 ≤ x5_1
     ·rw [if_pos c5] at H
      have c5b0 : decide (0 ≤ x5_1) = true := decide_eq_true c5
      clear c5
      by_cases c6 : x5_1 < (l1.length : Int)
      ·rw [if_pos c6] at H
       have c6b0 : decide (x5_1 < (l1.length : Int)) = true := decide_eq_true c6
       clear c6
       by_cases c7 : (rdOf ByteArray.empty l0 x5_1).toList = (rdOf ByteArray.empty l1 x5_1).toList
       ·rw [if_pos c7] at H
        have c7b0 : ((rdOf ByteArray.empty l0 x5_1).toList == (rdOf ByteArray.empty l1 x5_1).toList) = true := beq_iff_eq.mpr c7
        have c7b1 : ((rdOf ByteArray.empty l0 x5_1).toList != (rdOf ByteArray.empty l1 x5_1).toList) = false := bne_eq_false_iff_eq.mpr c7
        clear c7
        have H' := Aside0.mk H
        clear H
        have p175 : 0 ≤ (x5_1 : Int) := of_decide_eq_true (by first | (with_reducible assumption) | assumption)
        have q175 : x5_1 < (l0.length : Int) := of_decide_eq_true (by first | (with_reducible assumption) | assumption)
        obtain ⟨ad175, e175, hx175_0⟩ := Kd.at_string HR0.out x5_1 p175 q175
        cases e175
        replace p175 := eq_true p175
        replace q175 := eq_true q175
        have p176 : 0 ≤ (x5_1 : Int) := of_decide_eq_true (by first | (with_reducible assumption) | assumption)
        have q176 : x5_1 < (l1.length : Int) := of_decide_eq_true (by first | (with_reducible assumption) | assumption)
        obtain ⟨ad176, e176, hx176_0⟩ := Kd.at_string HR1.out x5_1 p176 q176
        cases e176
        replace p176 := eq_true p176
        replace q176 := eq_true q176
        go_wp2
        repeat (go_quiet (fail); try go_wp2)
        go_roundg k1
        case measure => have := HK1.out; omega
        case rel => exact ⟨(wrap64 (x5_1 + 1)), (by first | rfl | (simp; done) | (simp [*]; done)), H', ⟨by have := HK1.out; omega⟩, by repeat (first | exact Drawn0.refl _ | apply Drawn0.step)⟩
       ·rw [if_neg c7] at H
        have c7b0 : ((rdOf ByteArray.empty l0 x5_1).toList == (rdOf ByteArray.empty l1 x5_1).toList) = false := beq_eq_false_iff_ne.mpr c7
        have c7b1 : ((rdOf ByteArray.empty l0 x5_1).toList != (rdOf ByteArray.empty l1 x5_1).toList) = true := bne_iff_ne.mpr c7
        obtain rfl := Option.some.inj H
        have p175 : 0 ≤ (x5_1 : Int) := of_decide_eq_true (by first | (with_reducible assumption) | assumption)
        have q175 : x5_1 < (l0.length : Int) := of_decide_eq_true (by first | (with_reducible assumption) | assumption)
        obtain ⟨ad175, e175, hx175_0⟩ := Kd.at_string HR0.out x5_1 p175 q175
        cases e175
        replace p175 := eq_true p175
        replace q175 := eq_true q175
        have p176 : 0 ≤ (x5_1 : Int) := of_decide_eq_true (by first | (with_reducible assumption) | assumption)
        have q176 : x5_1 < (l1.length : Int) := of_decide_eq_true (by first | (with_reducible assumption) | assumption)
        obtain ⟨ad176, e176, hx176_0⟩ := Kd.at_string HR1.out x5_1 p176 q176
        cases e176
        replace p176 := eq_true p176
        replace q176 := eq_true q176
        go_wp2
        repeat (go_quiet (fail); try go_wp2)
        go_ret
        exact ⟨by first | rfl | (simp; done) | (simp [*]; done), by repeat (first | exact Drawn0.refl _ | apply Drawn0.step)⟩
      ·rw [if_neg c6] at H
       exact absurd H (by simp)
     ·rw [if_neg c5] at H
      exact absurd H (by simp)
    ·rw [if_neg c4] at H
     have c4b0 : decide (x5_1 < (l0.length : Int)) = false := decide_eq_false c4
     clear c4
     obtain rfl := Option.some.inj H
     go_wp2
     repeat (go_quiet (fail); try go_wp2)
     go_ret
     exact ⟨by first | rfl | (simp; done) | (simp [*]; done), by repeat (first | exact Drawn0.refl _ | apply Drawn0.step)⟩
 ·rw [if_neg c3] at H
  have c3b0 : ((l0.length : Int) == (l1.length : Int)) = false := beq_eq_false_iff_ne.mpr c3
  have c3b1 : ((l0.length : Int) != (l1.length : Int)) = true := bne_iff_ne.mpr c3
  have c3b2 : (l0.length == l1.length) = false := by first | simpa using c3 | (simp at c3 ⊢; omega)
  obtain rfl := Option.some.inj H
  go_enter Try.func53, Try.ntmps53
  go_wp2
  repeat (go_quiet (fail); try go_wp2)
  go_ret
  exact ⟨by first | rfl | (simp; done) | (simp [*]; done), by repeat (first | exact Drawn0.refl _ | apply Drawn0.step)⟩

/-! ### copyholdref11_Same: function 30 -/
def copyholdref11_Same.f (k : Nat) (a0_0 : Int) (a0_1 : Int) (a0_2 : Int) (a0_3 : Int) (a0_4 : ByteArray) (l0_5 : List ByteArray) (a1_0 : Int) (a1_1 : Int) (a1_2 : Int) (a1_3 : Int) (a1_4 : ByteArray) (l1_5 : List ByteArray) : Option (Bool) := (copyholdref01_Strings.f k l0_5 l1_5).bind fun t179 => (if t179 = true then (if a0_0 = a1_0 then (if a0_1 = a1_1 then (if a0_2 = a1_2 then (if a0_3 = a1_3 then (some (a0_4.toList == a1_4.toList)) else (some false)) else (some false)) else (some false)) else (some false)) else (some false))
theorem copyholdref11_Same.mono : ∀ a0 a1 a2 a3 a4 a5 a6 a7 a8 a9 a10 a11 k, LeO (copyholdref11_Same.f k a0 a1 a2 a3 a4 a5 a6 a7 a8 a9 a10 a11) (copyholdref11_Same.f (k + 1) a0 a1 a2 a3 a4 a5 a6 a7 a8 a9 a10 a11) := by
 intro a0 a1 a2 a3 a4 a5 a6 a7 a8 a9 a10 a11 k
 unfold copyholdref11_Same.f
 repeat' first
   | (with_reducible exact copyholdref01_Strings.mono _ _ _)
   | (with_reducible exact LeO.refl _)
   | (with_reducible exact LeO.none _)
   | (with_reducible refine LeO.ite ?_ ?_)
   | (with_reducible refine LeO.bind ?_ (fun _ => ?_))
   | exact copyholdref01_Strings.mono _ _ _
   | exact LeO.none _
   | refine LeO.ite ?_ ?_
   | refine LeO.bind ?_ (fun _ => ?_)
set_option maxHeartbeats 8000000 in
set_option maxRecDepth 100000 in
theorem copyholdref11_Same.calls (k : Nat) (a0_0 : Int) (a0_1 : Int) (a0_2 : Int) (a0_3 : Int) (a0_4 : ByteArray) (A0_5 : Option Addr) (c0_5 : Nat) (l0_5 : List ByteArray) (a1_0 : Int) (a1_1 : Int) (a1_2 : Int) (a1_3 : Int) (a1_4 : ByteArray) (A1_5 : Option Addr) (c1_5 : Nat) (l1_5 : List ByteArray) (r : Bool) (w : World) (hr0_5 : Kd.C Kd.string w A0_5 l0_5.length l0_5) (hc0_5 : l0_5.length ≤ c0_5) (hr1_5 : Kd.C Kd.string w A1_5 l1_5.length l1_5) (hc1_5 : l1_5.length ≤ c1_5) (h : copyholdref11_Same.f k a0_0 a0_1 a0_2 a0_3 a0_4 l0_5 a1_0 a1_1 a1_2 a1_3 a1_4 l1_5 = some r) :
  Calls Try.prog 30 #[.agg #[.int .i64 a0_0, .int .i64 a0_1, .int .i64 a0_2, .int .i64 a0_3, .string a0_4, .slice A0_5 l0_5.length c0_5], .agg #[.int .i64 a1_0, .int .i64 a1_1, .int .i64 a1_2, .int .i64 a1_3, .string a1_4, .slice A1_5 l1_5.length c1_5]] w fun e w' => e = .returned (.bool r) ∧ Below w.heap.size w w' := by
 have hu35 := Try.underlying35
 have HR0_5 := Aside0.mk hr0_5
 have HC0_5 := Aside0.mk hc0_5
 clear hr0_5 hc0_5
 have HR1_5 := Aside0.mk hr1_5
 have HC1_5 := Aside0.mk hc1_5
 clear hr1_5 hc1_5
 have HB := Aside0.mk (Below.refl w.heap.size w)
 have H : ((copyholdref01_Strings.f k l0_5 l1_5).bind fun t179 => (if t179 = true then (if a0_0 = a1_0 then (if a0_1 = a1_1 then (if a0_2 = a1_2 then (if a0_3 = a1_3 then (some (a0_4.toList == a1_4.toList)) else (some false)) else (some false)) else (some false)) else (some false)) else (some false))) = some r := h
 clear h
 replace H := Option.bind_eq_some_iff.mp H
 obtain ⟨t179, A30, H⟩ := H
 replace H : (if t179 = true then (if a0_0 = a1_0 then (if a0_1 = a1_1 then (if a0_2 = a1_2 then (if a0_3 = a1_3 then (some (a0_4.toList == a1_4.toList)) else (some false)) else (some false)) else (some false)) else (some false)) else (some false)) = some r := H
 have A3 := Aside0.mk A30
 clear A30
 by_cases c4 : t179 = true
 ·subst c4
  have H1 : (if a0_0 = a1_0 then (if a0_1 = a1_1 then (if a0_2 = a1_2 then (if a0_3 = a1_3 then (some (a0_4.toList == a1_4.toList)) else (some false)) else (some false)) else (some false)) else (some false)) = some r := by rw [if_pos rfl] at H; exact H
  clear H
  have H := H1
  clear H1
  by_cases c5 : a0_0 = a1_0
  ·rw [if_pos c5] at H
   have c5b0 : (a0_0 == a1_0) = true := beq_iff_eq.mpr c5
   have c5b1 : (a0_0 != a1_0) = false := bne_eq_false_iff_eq.mpr c5
   clear c5
   by_cases c6 : a0_1 = a1_1
   ·rw [if_pos c6] at H
    have c6b0 : (a0_1 == a1_1) = true := beq_iff_eq.mpr c6
    have c6b1 : (a0_1 != a1_1) = false := bne_eq_false_iff_eq.mpr c6
    clear c6
    by_cases c7 : a0_2 = a1_2
    ·rw [if_pos c7] at H
     have c7b0 : (a0_2 == a1_2) = true := beq_iff_eq.mpr c7
     have c7b1 : (a0_2 != a1_2) = false := bne_eq_false_iff_eq.mpr c7
     clear c7
     by_cases c8 : a0_3 = a1_3
     ·rw [if_pos c8] at H
      have c8b0 : (a0_3 == a1_3) = true := beq_iff_eq.mpr c8
      have c8b1 : (a0_3 != a1_3) = false := bne_eq_false_iff_eq.mpr c8
      clear c8
      obtain rfl := Option.some.inj H
      go_enter Try.func30, Try.ntmps30
      go_wp2_with (first | ((with_reducible refine gate_dst (N := 2) rfl ?_); refine box_event ?hg (N := 2) ?hd (cs := #[.int .i64 a0_0, .int .i64 a0_1, .int .i64 a0_2, .int .i64 a0_3, .string a0_4, .slice A0_5 l0_5.length c0_5]) (t := 35) ?hr ?_; (case hd => rfl); (case hg => rfl); (case hr => first | (go_simp; done) | (go_simp; rfl)); intro gb177 hg w9 hbox hb; have n0_ := Aside0.mk (below_step (by repeat (first | (with_reducible first | exact HB.out | apply below_alloc | apply pw_below_drewN | apply below_drew1) | exact HB.out)) hb); have n1_ := Aside0.mk (hbox); have n2_ := Aside0.mk ((by rw [hg]; exact (below_size (by repeat (first | (with_reducible first | exact HB.out | apply below_alloc | apply pw_below_drewN | apply below_drew1) | exact HB.out))) : w.heap.size ≤ gb177)); have n3_ := Aside0.mk ((by rw [hg]; exact (below_size (by repeat (first | (with_reducible first | exact HB.out | apply below_alloc | apply pw_below_drewN | apply below_drew1) | exact HB.out))) : w.heap.size ≤ gb177)); clear HB; have HB := n0_; have BK177 := n1_; have GW177 := n2_; have GE177 := n3_; clear n0_ n1_ n2_ n3_; clear hb hbox hg) | ((with_reducible refine gate_dst (N := 3) rfl ?_); refine box_event ?hg (N := 3) ?hd (cs := #[.int .i64 a1_0, .int .i64 a1_1, .int .i64 a1_2, .int .i64 a1_3, .string a1_4, .slice A1_5 l1_5.length c1_5]) (t := 35) ?hr ?_; (case hd => rfl); (case hg => rfl); (case hr => first | (go_simp; done) | (go_simp; rfl)); intro gb178 hg w10 hbox hb; have n0_ := Aside0.mk (blk_below (g := gb177) (o := .cells #[.int .i64 a0_0, .int .i64 a0_1, .int .i64 a0_2, .int .i64 a0_3, .string a0_4, .slice A0_5 l0_5.length c0_5] 35 (0, 0)) (by (with_reducible repeat (first | refine blk_drewN ?_ _ | refine blk_drew ?_ | refine blk_alloc ?_ _)); exact BK177.out) hb); have n1_ := Aside0.mk (below_step (by repeat (first | (with_reducible first | exact HB.out | apply below_alloc | apply pw_below_drewN | apply below_drew1 | refine below_set ?_ GE177.out) | exact HB.out)) hb); have n2_ := Aside0.mk (hbox); have n3_ := Aside0.mk ((by rw [hg]; exact (below_size (by repeat (first | (with_reducible first | exact HB.out | apply below_alloc | apply pw_below_drewN | apply below_drew1 | refine below_set ?_ GE177.out) | exact HB.out))) : w.heap.size ≤ gb178)); have n4_ := Aside0.mk ((by rw [hg]; exact (below_size (by repeat (first | (with_reducible first | exact HB.out | apply below_alloc | apply pw_below_drewN | apply below_drew1 | refine below_set ?_ GE177.out) | exact HB.out))) : w.heap.size ≤ gb178)); have n5_ := Aside0.mk ((by rw [hg]; exact Nat.ne_of_lt (blk_lt (g := gb177) (o := .cells #[.int .i64 a0_0, .int .i64 a0_1, .int .i64 a0_2, .int .i64 a0_3, .string a0_4, .slice A0_5 l0_5.length c0_5] 35 (0, 0)) (by (with_reducible repeat (first | refine blk_drewN ?_ _ | refine blk_drew ?_ | refine blk_alloc ?_ _)); exact BK177.out)) : gb177 ≠ gb178)); have n6_ := Aside0.mk ((by rw [hg]; exact Nat.ne_of_gt (blk_lt (g := gb177) (o := .cells #[.int .i64 a0_0, .int .i64 a0_1, .int .i64 a0_2, .int .i64 a0_3, .string a0_4, .slice A0_5 l0_5.length c0_5] 35 (0, 0)) (by (with_reducible repeat (first | refine blk_drewN ?_ _ | refine blk_drew ?_ | refine blk_alloc ?_ _)); exact BK177.out)) : gb178 ≠ gb177)); clear BK177; clear HB; have BK177 := n0_; have HB := n1_; have BK178 := n2_; have GW178 := n3_; have GE178 := n4_; have NB177_178 := n5_; have NB178_177 := n6_; clear n0_ n1_ n2_ n3_ n4_ n5_ n6_; clear hb hbox hg; have hnb11 := NB177_178.out; have hnc11 := NB178_177.out; have hcz12_0 : w10.cell? ⟨gb177, 0, none⟩ = some (.int .i64 a0_0) := (blk_cell BK177.out 0).trans rfl; have hcz12_1 : w10.cell? ⟨gb177, 1, none⟩ = some (.int .i64 a0_1) := (blk_cell BK177.out 1).trans rfl; have hcz12_2 : w10.cell? ⟨gb177, 2, none⟩ = some (.int .i64 a0_2) := (blk_cell BK177.out 2).trans rfl; have hcz12_3 : w10.cell? ⟨gb177, 3, none⟩ = some (.int .i64 a0_3) := (blk_cell BK177.out 3).trans rfl; have hcz12_4 : w10.cell? ⟨gb177, 4, none⟩ = some (.string a0_4) := (blk_cell BK177.out 4).trans rfl; have hcz12_5 : w10.cell? ⟨gb177, 5, none⟩ = some (.slice A0_5 l0_5.length c0_5) := (blk_cell BK177.out 5).trans rfl; have hfz12_0 := blk_frozen BK177.out 0; have hfz12_1 := blk_frozen BK177.out 1; have hfz12_2 := blk_frozen BK177.out 2; have hfz12_3 := blk_frozen BK177.out 3; have hfz12_4 := blk_frozen BK177.out 4; have hfz12_5 := blk_frozen BK177.out 5; have hcz13_0 : w10.cell? ⟨gb178, 0, none⟩ = some (.int .i64 a1_0) := (blk_cell BK178.out 0).trans rfl; have hcz13_1 : w10.cell? ⟨gb178, 1, none⟩ = some (.int .i64 a1_1) := (blk_cell BK178.out 1).trans rfl; have hcz13_2 : w10.cell? ⟨gb178, 2, none⟩ = some (.int .i64 a1_2) := (blk_cell BK178.out 2).trans rfl; have hcz13_3 : w10.cell? ⟨gb178, 3, none⟩ = some (.int .i64 a1_3) := (blk_cell BK178.out 3).trans rfl; have hcz13_4 : w10.cell? ⟨gb178, 4, none⟩ = some (.string a1_4) := (blk_cell BK178.out 4).trans rfl; have hcz13_5 : w10.cell? ⟨gb178, 5, none⟩ = some (.slice A1_5 l1_5.length c1_5) := (blk_cell BK178.out 5).trans rfl; have hfz13_0 := blk_frozen BK178.out 0; have hfz13_1 := blk_frozen BK178.out 1; have hfz13_2 := blk_frozen BK178.out 2; have hfz13_3 := blk_frozen BK178.out 3; have hfz13_4 := blk_frozen BK178.out 4; have hfz13_5 := blk_frozen BK178.out 5) | ((with_reducible refine gate_callee (f := 53) rfl ?_); refine goesL_ (some 10) rfl rfl Try.func53 (by kernel_rfl) rfl #[.slice A0_5 l0_5.length c0_5, .slice A1_5 l1_5.length c1_5] rfl (by (try simp only [List.map_toArray, List.map_cons, List.map_nil]); first | done | rfl | (simp only [List.length_drop, List.length_take]; rfl)) ?_; (with_reducible refine (copyholdref01_Strings.calls k _ _ l0_5 _ _ l1_5 true _ ?side1 ?side2 ?side3 ?side4 A3.out).mono ?_); (case side1 => repeat (first | exact (Kd.C_below HR0_5.out HB.out) | (with_reducible refine Kd.C_alloc ?_ _) | (with_reducible refine Kd.C_drewN ?_ _) | (with_reducible refine Kd.C_drew ?_))); (case side2 => exact HC0_5.out); (case side3 => repeat (first | exact (Kd.C_below HR1_5.out HB.out) | (with_reducible refine Kd.C_alloc ?_ _) | (with_reducible refine Kd.C_drewN ?_ _) | (with_reducible refine Kd.C_drew ?_))); (case side4 => exact HC1_5.out); rintro e w' ⟨rfl, ⟨nd, rfl⟩⟩; refine ⟨_, rfl, ?_⟩))
      go_ret
      exact ⟨by first | rfl | (simp [errW_none, errW_some] <;> rfl) | (simp [*, errW_none, errW_some] <;> rfl), by repeat (first | (with_reducible first | exact HB.out | apply below_alloc | apply pw_below_drewN | apply below_drew1 | refine below_set ?_ GE177.out | refine below_set ?_ GE178.out) | exact HB.out)⟩
     ·rw [if_neg c8] at H
      have c8b0 : (a0_3 == a1_3) = false := beq_eq_false_iff_ne.mpr c8
      have c8b1 : (a0_3 != a1_3) = true := bne_iff_ne.mpr c8
      obtain rfl := Option.some.inj H
      go_enter Try.func30, Try.ntmps30
      go_wp2_with (first | ((with_reducible refine gate_dst (N := 2) rfl ?_); refine box_event ?hg (N := 2) ?hd (cs := #[.int .i64 a0_0, .int .i64 a0_1, .int .i64 a0_2, .int .i64 a0_3, .string a0_4, .slice A0_5 l0_5.length c0_5]) (t := 35) ?hr ?_; (case hd => rfl); (case hg => rfl); (case hr => first | (go_simp; done) | (go_simp; rfl)); intro gb177 hg w14 hbox hb; have n0_ := Aside0.mk (below_step (by repeat (first | (with_reducible first | exact HB.out | apply below_alloc | apply pw_below_drewN | apply below_drew1) | exact HB.out)) hb); have n1_ := Aside0.mk (hbox); have n2_ := Aside0.mk ((by rw [hg]; exact (below_size (by repeat (first | (with_reducible first | exact HB.out | apply below_alloc | apply pw_below_drewN | apply below_drew1) | exact HB.out))) : w.heap.size ≤ gb177)); have n3_ := Aside0.mk ((by rw [hg]; exact (below_size (by repeat (first | (with_reducible first | exact HB.out | apply below_alloc | apply pw_below_drewN | apply below_drew1) | exact HB.out))) : w.heap.size ≤ gb177)); clear HB; have HB := n0_; have BK177 := n1_; have GW177 := n2_; have GE177 := n3_; clear n0_ n1_ n2_ n3_; clear hb hbox hg) | ((with_reducible refine gate_dst (N := 3) rfl ?_); refine box_event ?hg (N := 3) ?hd (cs := #[.int .i64 a1_0, .int .i64 a1_1, .int .i64 a1_2, .int .i64 a1_3, .string a1_4, .slice A1_5 l1_5.length c1_5]) (t := 35) ?hr ?_; (case hd => rfl); (case hg => rfl); (case hr => first | (go_simp; done) | (go_simp; rfl)); intro gb178 hg w15 hbox hb; have n0_ := Aside0.mk (blk_below (g := gb177) (o := .cells #[.int .i64 a0_0, .int .i64 a0_1, .int .i64 a0_2, .int .i64 a0_3, .string a0_4, .slice A0_5 l0_5.length c0_5] 35 (0, 0)) (by (with_reducible repeat (first | refine blk_drewN ?_ _ | refine blk_drew ?_ | refine blk_alloc ?_ _)); exact BK177.out) hb); have n1_ := Aside0.mk (below_step (by repeat (first | (with_reducible first | exact HB.out | apply below_alloc | apply pw_below_drewN | apply below_drew1 | refine below_set ?_ GE177.out) | exact HB.out)) hb); have n2_ := Aside0.mk (hbox); have n3_ := Aside0.mk ((by rw [hg]; exact (below_size (by repeat (first | (with_reducible first | exact HB.out | apply below_alloc | apply pw_below_drewN | apply below_drew1 | refine below_set ?_ GE177.out) | exact HB.out))) : w.heap.size ≤ gb178)); have n4_ := Aside0.mk ((by rw [hg]; exact (below_size (by repeat (first | (with_reducible first | exact HB.out | apply below_alloc | apply pw_below_drewN | apply below_drew1 | refine below_set ?_ GE177.out) | exact HB.out))) : w.heap.size ≤ gb178)); have n5_ := Aside0.mk ((by rw [hg]; exact Nat.ne_of_lt (blk_lt (g := gb177) (o := .cells #[.int .i64 a0_0, .int .i64 a0_1, .int .i64 a0_2, .int .i64 a0_3, .string a0_4, .slice A0_5 l0_5.length c0_5] 35 (0, 0)) (by (with_reducible repeat (first | refine blk_drewN ?_ _ | refine blk_drew ?_ | refine blk_alloc ?_ _)); exact BK177.out)) : gb177 ≠ gb178)); have n6_ := Aside0.mk ((by rw [hg]; exact Nat.ne_of_gt (blk_lt (g := gb177) (o := .cells #[.int .i64 a0_0, .int .i64 a0_1, .int .i64 a0_2, .int .i64 a0_3, .string a0_4, .slice A0_5 l0_5.length c0_5] 35 (0, 0)) (by (with_reducible repeat (first | refine blk_drewN ?_ _ | refine blk_drew ?_ | refine blk_alloc ?_ _)); exact BK177.out)) : gb178 ≠ gb177)); clear BK177; clear HB; have BK177 := n0_; have HB := n1_; have BK178 := n2_; have GW178 := n3_; have GE178 := n4_; have NB177_178 := n5_; have NB178_177 := n6_; clear n0_ n1_ n2_ n3_ n4_ n5_ n6_; clear hb hbox hg; have hnb16 := NB177_178.out; have hnc16 := NB178_177.out; have hcz17_0 : w15.cell? ⟨gb177, 0, none⟩ = some (.int .i64 a0_0) := (blk_cell BK177.out 0).trans rfl; have hcz17_1 : w15.cell? ⟨gb177, 1, none⟩ = some (.int .i64 a0_1) := (blk_cell BK177.out 1).trans rfl; have hcz17_2 : w15.cell? ⟨gb177, 2, none⟩ = some (.int .i64 a0_2) := (blk_cell BK177.out 2).trans rfl; have hcz17_3 : w15.cell? ⟨gb177, 3, none⟩ = some (.int .i64 a0_3) := (blk_cell BK177.out 3).trans rfl; have hcz17_4 : w15.cell? ⟨gb177, 4, none⟩ = some (.string a0_4) := (blk_cell BK177.out 4).trans rfl; have hcz17_5 : w15.cell? ⟨gb177, 5, none⟩ = some (.slice A0_5 l0_5.length c0_5) := (blk_cell BK177.out 5).trans rfl; have hfz17_0 := blk_frozen BK177.out 0; have hfz17_1 := blk_frozen BK177.out 1; have hfz17_2 := blk_frozen BK177.out 2; have hfz17_3 := blk_frozen BK177.out 3; have hfz17_4 := blk_frozen BK177.out 4; have hfz17_5 := blk_frozen BK177.out 5; have hcz18_0 : w15.cell? ⟨gb178, 0, none⟩ = some (.int .i64 a1_0) := (blk_cell BK178.out 0).trans rfl; have hcz18_1 : w15.cell? ⟨gb178, 1, none⟩ = some (.int .i64 a1_1) := (blk_cell BK178.out 1).trans rfl; have hcz18_2 : w15.cell? ⟨gb178, 2, none⟩ = some (.int .i64 a1_2) := (blk_cell BK178.out 2).trans rfl; have hcz18_3 : w15.cell? ⟨gb178, 3, none⟩ = some (.int .i64 a1_3) := (blk_cell BK178.out 3).trans rfl; have hcz18_4 : w15.cell? ⟨gb178, 4, none⟩ = some (.string a1_4) := (blk_cell BK178.out 4).trans rfl; have hcz18_5 : w15.cell? ⟨gb178, 5, none⟩ = some (.slice A1_5 l1_5.length c1_5) := (blk_cell BK178.out 5).trans rfl; have hfz18_0 := blk_frozen BK178.out 0; have hfz18_1 := blk_frozen BK178.out 1; have hfz18_2 := blk_frozen BK178.out 2; have hfz18_3 := blk_frozen BK178.out 3; have hfz18_4 := blk_frozen BK178.out 4; have hfz18_5 := blk_frozen BK178.out 5) | ((with_reducible refine gate_callee (f := 53) rfl ?_); refine goesL_ (some 10) rfl rfl Try.func53 (by kernel_rfl) rfl #[.slice A0_5 l0_5.length c0_5, .slice A1_5 l1_5.length c1_5] rfl (by (try simp only [List.map_toArray, List.map_cons, List.map_nil]); first | done | rfl | (simp only [List.length_drop, List.length_take]; rfl)) ?_; (with_reducible refine (copyholdref01_Strings.calls k _ _ l0_5 _ _ l1_5 true _ ?side1 ?side2 ?side3 ?side4 A3.out).mono ?_); (case side1 => repeat (first | exact (Kd.C_below HR0_5.out HB.out) | (with_reducible refine Kd.C_alloc ?_ _) | (with_reducible refine Kd.C_drewN ?_ _) | (with_reducible refine Kd.C_drew ?_))); (case side2 => exact HC0_5.out); (case side3 => repeat (first | exact (Kd.C_below HR1_5.out HB.out) | (with_reducible refine Kd.C_alloc ?_ _) | (with_reducible refine Kd.C_drewN ?_ _) | (with_reducible refine Kd.C_drew ?_))); (case side4 => exact HC1_5.out); rintro e w' ⟨rfl, ⟨nd, rfl⟩⟩; refine ⟨_, rfl, ?_⟩))
      go_ret
      exact ⟨by first | rfl | (simp [errW_none, errW_some] <;> rfl) | (simp [*, errW_none, errW_some] <;> rfl), by repeat (first | (with_reducible first | exact HB.out | apply below_alloc | apply pw_below_drewN | apply below_drew1 | refine below_set ?_ GE177.out | refine below_set ?_ GE178.out) | exact HB.out)⟩
    ·rw [if_neg c7] at H
     have c7b0 : (a0_2 == a1_2) = false := beq_eq_false_iff_ne.mpr c7
     have c7b1 : (a0_2 != a1_2) = true := bne_iff_ne.mpr c7
     obtain rfl := Option.some.inj H
     go_enter Try.func30, Try.ntmps30
     go_wp2_with (first | ((with_reducible refine gate_dst (N := 2) rfl ?_); refine box_event ?hg (N := 2) ?hd (cs := #[.int .i64 a0_0, .int .i64 a0_1, .int .i64 a0_2, .int .i64 a0_3, .string a0_4, .slice A0_5 l0_5.length c0_5]) (t := 35) ?hr ?_; (case hd => rfl); (case hg => rfl); (case hr => first | (go_simp; done) | (go_simp; rfl)); intro gb177 hg w19 hbox hb; have n0_ := Aside0.mk (below_step (by repeat (first | (with_reducible first | exact HB.out | apply below_alloc | apply pw_below_drewN | apply below_drew1) | exact HB.out)) hb); have n1_ := Aside0.mk (hbox); have n2_ := Aside0.mk ((by rw [hg]; exact (below_size (by repeat (first | (with_reducible first | exact HB.out | apply below_alloc | apply pw_below_drewN | apply below_drew1) | exact HB.out))) : w.heap.size ≤ gb177)); have n3_ := Aside0.mk ((by rw [hg]; exact (below_size (by repeat (first | (with_reducible first | exact HB.out | apply below_alloc | apply pw_below_drewN | apply below_drew1) | exact HB.out))) : w.heap.size ≤ gb177)); clear HB; have HB := n0_; have BK177 := n1_; have GW177 := n2_; have GE177 := n3_; clear n0_ n1_ n2_ n3_; clear hb hbox hg) | ((with_reducible refine gate_dst (N := 3) rfl ?_); refine box_event ?hg (N := 3) ?hd (cs := #[.int .i64 a1_0, .int .i64 a1_1, .int .i64 a1_2, .int .i64 a1_3, .string a1_4, .slice A1_5 l1_5.length c1_5]) (t := 35) ?hr ?_; (case hd => rfl); (case hg => rfl); (case hr => first | (go_simp; done) | (go_simp; rfl)); intro gb178 hg w20 hbox hb; have n0_ := Aside0.mk (blk_below (g := gb177) (o := .cells #[.int .i64 a0_0, .int .i64 a0_1, .int .i64 a0_2, .int .i64 a0_3, .string a0_4, .slice A0_5 l0_5.length c0_5] 35 (0, 0)) (by (with_reducible repeat (first | refine blk_drewN ?_ _ | refine blk_drew ?_ | refine blk_alloc ?_ _)); exact BK177.out) hb); have n1_ := Aside0.mk (below_step (by repeat (first | (with_reducible first | exact HB.out | apply below_alloc | apply pw_below_drewN | apply below_drew1 | refine below_set ?_ GE177.out) | exact HB.out)) hb); have n2_ := Aside0.mk (hbox); have n3_ := Aside0.mk ((by rw [hg]; exact (below_size (by repeat (first | (with_reducible first | exact HB.out | apply below_alloc | apply pw_below_drewN | apply below_drew1 | refine below_set ?_ GE177.out) | exact HB.out))) : w.heap.size ≤ gb178)); have n4_ := Aside0.mk ((by rw [hg]; exact (below_size (by repeat (first | (with_reducible first | exact HB.out | apply below_alloc | apply pw_below_drewN | apply below_drew1 | refine below_set ?_ GE177.out) | exact HB.out))) : w.heap.size ≤ gb178)); have n5_ := Aside0.mk ((by rw [hg]; exact Nat.ne_of_lt (blk_lt (g := gb177) (o := .cells #[.int .i64 a0_0, .int .i64 a0_1, .int .i64 a0_2, .int .i64 a0_3, .string a0_4, .slice A0_5 l0_5.length c0_5] 35 (0, 0)) (by (with_reducible repeat (first | refine blk_drewN ?_ _ | refine blk_drew ?_ | refine blk_alloc ?_ _)); exact BK177.out)) : gb177 ≠ gb178)); have n6_ := Aside0.mk ((by rw [hg]; exact Nat.ne_of_gt (blk_lt (g := gb177) (o := .cells #[.int .i64 a0_0, .int .i64 a0_1, .int .i64 a0_2, .int .i64 a0_3, .string a0_4, .slice A0_5 l0_5.length c0_5] 35 (0, 0)) (by (with_reducible repeat (first | refine blk_drewN ?_ _ | refine blk_drew ?_ | refine blk_alloc ?_ _)); exact BK177.out)) : gb178 ≠ gb177)); clear BK177; clear HB; have BK177 := n0_; have HB := n1_; have BK178 := n2_; have GW178 := n3_; have GE178 := n4_; have NB177_178 := n5_; have NB178_177 := n6_; clear n0_ n1_ n2_ n3_ n4_ n5_ n6_; clear hb hbox hg; have hnb21 := NB177_178.out; have hnc21 := NB178_177.out; have hcz22_0 : w20.cell? ⟨gb177, 0, none⟩ = some (.int .i64 a0_0) := (blk_cell BK177.out 0).trans rfl; have hcz22_1 : w20.cell? ⟨gb177, 1, none⟩ = some (.int .i64 a0_1) := (blk_cell BK177.out 1).trans rfl; have hcz22_2 : w20.cell? ⟨gb177, 2, none⟩ = some (.int .i64 a0_2) := (blk_cell BK177.out 2).trans rfl; have hcz22_3 : w20.cell? ⟨gb177, 3, none⟩ = some (.int .i64 a0_3) := (blk_cell BK177.out 3).trans rfl; have hcz22_4 : w20.cell? ⟨gb177, 4, none⟩ = some (.string a0_4) := (blk_cell BK177.out 4).trans rfl; have hcz22_5 : w20.cell? ⟨gb177, 5, none⟩ = some (.slice A0_5 l0_5.length c0_5) := (blk_cell BK177.out 5).trans rfl; have hfz22_0 := blk_frozen BK177.out 0; have hfz22_1 := blk_frozen BK177.out 1; have hfz22_2 := blk_frozen BK177.out 2; have hfz22_3 := blk_frozen BK177.out 3; have hfz22_4 := blk_frozen BK177.out 4; have hfz22_5 := blk_frozen BK177.out 5; have hcz23_0 : w20.cell? ⟨gb178, 0, none⟩ = some (.int .i64 a1_0) := (blk_cell BK178.out 0).trans rfl; have hcz23_1 : w20.cell? ⟨gb178, 1, none⟩ = some (.int .i64 a1_1) := (blk_cell BK178.out 1).trans rfl; have hcz23_2 : w20.cell? ⟨gb178, 2, none⟩ = some (.int .i64 a1_2) := (blk_cell BK178.out 2).trans rfl; have hcz23_3 : w20.cell? ⟨gb178, 3, none⟩ = some (.int .i64 a1_3) := (blk_cell BK178.out 3).trans rfl; have hcz23_4 : w20.cell? ⟨gb178, 4, none⟩ = some (.string a1_4) := (blk_cell BK178.out 4).trans rfl; have hcz23_5 : w20.cell? ⟨gb178, 5, none⟩ = some (.slice A1_5 l1_5.length c1_5) := (blk_cell BK178.out 5).trans rfl; have hfz23_0 := blk_frozen BK178.out 0; have hfz23_1 := blk_frozen BK178.out 1; have hfz23_2 := blk_frozen BK178.out 2; have hfz23_3 := blk_frozen BK178.out 3; have hfz23_4 := blk_frozen BK178.out 4; have hfz23_5 := blk_frozen BK178.out 5) | ((with_reducible refine gate_callee (f := 53) rfl ?_); refine goesL_ (some 10) rfl rfl Try.func53 (by kernel_rfl) rfl #[.slice A0_5 l0_5.length c0_5, .slice A1_5 l1_5.length c1_5] rfl (by (try simp only [List.map_toArray, List.map_cons, List.map_nil]); first | done | rfl | (simp only [List.length_drop, List.length_take]; rfl)) ?_; (with_reducible refine (copyholdref01_Strings.calls k _ _ l0_5 _ _ l1_5 true _ ?side1 ?side2 ?side3 ?side4 A3.out).mono ?_); (case side1 => repeat (first | exact (Kd.C_below HR0_5.out HB.out) | (with_reducible refine Kd.C_alloc ?_ _) | (with_reducible refine Kd.C_drewN ?_ _) | (with_reducible refine Kd.C_drew ?_))); (case side2 => exact HC0_5.out); (case side3 => repeat (first | exact (Kd.C_below HR1_5.out HB.out) | (with_reducible refine Kd.C_alloc ?_ _) | (with_reducible refine Kd.C_drewN ?_ _) | (with_reducible refine Kd.C_drew ?_))); (case side4 => exact HC1_5.out); rintro e w' ⟨rfl, ⟨nd, rfl⟩⟩; refine ⟨_, rfl, ?_⟩))
     go_ret
     exact ⟨by first | rfl | (simp [errW_none, errW_some] <;> rfl) | (simp [*, errW_none, errW_some] <;> rfl), by repeat (first | (with_reducible first | exact HB.out | apply below_alloc | apply pw_below_drewN | apply below_drew1 | refine below_set ?_ GE177.out | refine below_set ?_ GE178.out) | exact HB.out)⟩
   ·rw [if_neg c6] at H
    have c6b0 : (a0_1 == a1_1) = false := beq_eq_false_iff_ne.mpr c6
    have c6b1 : (a0_1 != a1_1) = true := bne_iff_ne.mpr c6
    obtain rfl := Option.some.inj H
    go_enter Try.func30, Try.ntmps30
    go_wp2_with (first | ((with_reducible refine gate_dst (N := 2) rfl ?_); refine box_event ?hg (N := 2) ?hd (cs := #[.int .i64 a0_0, .int .i64 a0_1, .int .i64 a0_2, .int .i64 a0_3, .string a0_4, .slice A0_5 l0_5.length c0_5]) (t := 35) ?hr ?_; (case hd => rfl); (case hg => rfl); (case hr => first | (go_simp; done) | (go_simp; rfl)); intro gb177 hg w24 hbox hb; have n0_ := Aside0.mk (below_step (by repeat (first | (with_reducible first | exact HB.out | apply below_alloc | apply pw_below_drewN | apply below_drew1) | exact HB.out)) hb); have n1_ := Aside0.mk (hbox); have n2_ := Aside0.mk ((by rw [hg]; exact (below_size (by repeat (first | (with_reducible first | exact HB.out | apply below_alloc | apply pw_below_drewN | apply below_drew1) | exact HB.out))) : w.heap.size ≤ gb177)); have n3_ := Aside0.mk ((by rw [hg]; exact (below_size (by repeat (first | (with_reducible first | exact HB.out | apply below_alloc | apply pw_below_drewN | apply below_drew1) | exact HB.out))) : w.heap.size ≤ gb177)); clear HB; have HB := n0_; have BK177 := n1_; have GW177 := n2_; have GE177 := n3_; clear n0_ n1_ n2_ n3_; clear hb hbox hg) | ((with_reducible refine gate_dst (N := 3) rfl ?_); refine box_event ?hg (N := 3) ?hd (cs := #[.int .i64 a1_0, .int .i64 a1_1, .int .i64 a1_2, .int .i64 a1_3, .string a1_4, .slice A1_5 l1_5.length c1_5]) (t := 35) ?hr ?_; (case hd => rfl); (case hg => rfl); (case hr => first | (go_simp; done) | (go_simp; rfl)); intro gb178 hg w25 hbox hb; have n0_ := Aside0.mk (blk_below (g := gb177) (o := .cells #[.int .i64 a0_0, .int .i64 a0_1, .int .i64 a0_2, .int .i64 a0_3, .string a0_4, .slice A0_5 l0_5.length c0_5] 35 (0, 0)) (by (with_reducible repeat (first | refine blk_drewN ?_ _ | refine blk_drew ?_ | refine blk_alloc ?_ _)); exact BK177.out) hb); have n1_ := Aside0.mk (below_step (by repeat (first | (with_reducible first | exact HB.out | apply below_alloc | apply pw_below_drewN | apply below_drew1 | refine below_set ?_ GE177.out) | exact HB.out)) hb); have n2_ := Aside0.mk (hbox); have n3_ := Aside0.mk ((by rw [hg]; exact (below_size (by repeat (first | (with_reducible first | exact HB.out | apply below_alloc | apply pw_below_drewN | apply below_drew1 | refine below_set ?_ GE177.out) | exact HB.out))) : w.heap.size ≤ gb178)); have n4_ := Aside0.mk ((by rw [hg]; exact (below_size (by repeat (first | (with_reducible first | exact HB.out | apply below_alloc | apply pw_below_drewN | apply below_drew1 | refine below_set ?_ GE177.out) | exact HB.out))) : w.heap.size ≤ gb178)); have n5_ := Aside0.mk ((by rw [hg]; exact Nat.ne_of_lt (blk_lt (g := gb177) (o := .cells #[.int .i64 a0_0, .int .i64 a0_1, .int .i64 a0_2, .int .i64 a0_3, .string a0_4, .slice A0_5 l0_5.length c0_5] 35 (0, 0)) (by (with_reducible repeat (first | refine blk_drewN ?_ _ | refine blk_drew ?_ | refine blk_alloc ?_ _)); exact BK177.out)) : gb177 ≠ gb178)); have n6_ := Aside0.mk ((by rw [hg]; exact Nat.ne_of_gt (blk_lt (g := gb177) (o := .cells #[.int .i64 a0_0, .int .i64 a0_1, .int .i64 a0_2, .int .i64 a0_3, .string a0_4, .slice A0_5 l0_5.length c0_5] 35 (0, 0)) (by (with_reducible repeat (first | refine blk_drewN ?_ _ | refine blk_drew ?_ | refine blk_alloc ?_ _)); exact BK177.out)) : gb178 ≠ gb177)); clear BK177; clear HB; have BK177 := n0_; have HB := n1_; have BK178 := n2_; have GW178 := n3_; have GE178 := n4_; have NB177_178 := n5_; have NB178_177 := n6_; clear n0_ n1_ n2_ n3_ n4_ n5_ n6_; clear hb hbox hg; have hnb26 := NB177_178.out; have hnc26 := NB178_177.out; have hcz27_0 : w25.cell? ⟨gb177, 0, none⟩ = some (.int .i64 a0_0) := (blk_cell BK177.out 0).trans rfl; have hcz27_1 : w25.cell? ⟨gb177, 1, none⟩ = some (.int .i64 a0_1) := (blk_cell BK177.out 1).trans rfl; have hcz27_2 : w25.cell? ⟨gb177, 2, none⟩ = some (.int .i64 a0_2) := (blk_cell BK177.out 2).trans rfl; have hcz27_3 : w25.cell? ⟨gb177, 3, none⟩ = some (.int .i64 a0_3) := (blk_cell BK177.out 3).trans rfl; have hcz27_4 : w25.cell? ⟨gb177, 4, none⟩ = some (.string a0_4) := (blk_cell BK177.out 4).trans rfl; have hcz27_5 : w25.cell? ⟨gb177, 5, none⟩ = some (.slice A0_5 l0_5.length c0_5) := (blk_cell BK177.out 5).trans rfl; have hfz27_0 := blk_frozen BK177.out 0; have hfz27_1 := blk_frozen BK177.out 1; have hfz27_2 := blk_frozen BK177.out 2; have hfz27_3 := blk_frozen BK177.out 3; have hfz27_4 := blk_frozen BK177.out 4; have hfz27_5 := blk_frozen BK177.out 5; have hcz28_0 : w25.cell? ⟨gb178, 0, none⟩ = some (.int .i64 a1_0) := (blk_cell BK178.out 0).trans rfl; have hcz28_1 : w25.cell? ⟨gb178, 1, none⟩ = some (.int .i64 a1_1) := (blk_cell BK178.out 1).trans rfl; have hcz28_2 : w25.cell? ⟨gb178, 2, none⟩ = some (.int .i64 a1_2) := (blk_cell BK178.out 2).trans rfl; have hcz28_3 : w25.cell? ⟨gb178, 3, none⟩ = some (.int .i64 a1_3) := (blk_cell BK178.out 3).trans rfl; have hcz28_4 : w25.cell? ⟨gb178, 4, none⟩ = some (.string a1_4) := (blk_cell BK178.out 4).trans rfl; have hcz28_5 : w25.cell? ⟨gb178, 5, none⟩ = some (.slice A1_5 l1_5.length c1_5) := (blk_cell BK178.out 5).trans rfl; have hfz28_0 := blk_frozen BK178.out 0; have hfz28_1 := blk_frozen BK178.out 1; have hfz28_2 := blk_frozen BK178.out 2; have hfz28_3 := blk_frozen BK178.out 3; have hfz28_4 := blk_frozen BK178.out 4; have hfz28_5 := blk_frozen BK178.out 5) | ((with_reducible refine gate_callee (f := 53) rfl ?_); refine goesL_ (some 10) rfl rfl Try.func53 (by kernel_rfl) rfl #[.slice A0_5 l0_5.length c0_5, .slice A1_5 l1_5.length c1_5] rfl (by (try simp only [List.map_toArray, List.map_cons, List.map_nil]); first | done | rfl | (simp only [List.length_drop, List.length_take]; rfl)) ?_; (with_reducible refine (copyholdref01_Strings.calls k _ _ l0_5 _ _ l1_5 true _ ?side1 ?side2 ?side3 ?side4 A3.out).mono ?_); (case side1 => repeat (first | exact (Kd.C_below HR0_5.out HB.out) | (with_reducible refine Kd.C_alloc ?_ _) | (with_reducible refine Kd.C_drewN ?_ _) | (with_reducible refine Kd.C_drew ?_))); (case side2 => exact HC0_5.out); (case side3 => repeat (first | exact (Kd.C_below HR1_5.out HB.out) | (with_reducible refine Kd.C_alloc ?_ _) | (with_reducible refine Kd.C_drewN ?_ _) | (with_reducible refine Kd.C_drew ?_))); (case side4 => exact HC1_5.out); rintro e w' ⟨rfl, ⟨nd, rfl⟩⟩; refine ⟨_, rfl, ?_⟩))
    go_ret
    exact ⟨by first | rfl | (simp [errW_none, errW_some] <;> rfl) | (simp [*, errW_none, errW_some] <;> rfl), by repeat (first | (with_reducible first | exact HB.out | apply below_alloc | apply pw_below_drewN | apply below_drew1 | refine below_set ?_ GE177.out | refine below_set ?_ GE178.out) | exact HB.out)⟩
  ·rw [if_neg c5] at H
   have c5b0 : (a0_0 == a1_0) = false := beq_eq_false_iff_ne.mpr c5
   have c5b1 : (a0_0 != a1_0) = true := bne_iff_ne.mpr c5
   obtain rfl := Option.some.inj H
   go_enter Try.func30, Try.ntmps30
   go_wp2_with (first | ((with_reducible refine gate_dst (N := 2) rfl ?_); refine box_event ?hg (N := 2) ?hd (cs := #[.int .i64 a0_0, .int .i64 a0_1, .int .i64 a0_2, .int .i64 a0_3, .string a0_4, .slice A0_5 l0_5.length c0_5]) (t := 35) ?hr ?_; (case hd => rfl); (case hg => rfl); (case hr => first | (go_simp; done) | (go_simp; rfl)); intro gb177 hg w29 hbox hb; have n0_ := Aside0.mk (below_step (by repeat (first | (with_reducible first | exact HB.out | apply below_alloc | apply pw_below_drewN | apply below_drew1) | exact HB.out)) hb); have n1_ := Aside0.mk (hbox); have n2_ := Aside0.mk ((by rw [hg]; exact (below_size (by repeat (first | (with_reducible first | exact HB.out | apply below_alloc | apply pw_below_drewN | apply below_drew1) | exact HB.out))) : w.heap.size ≤ gb177)); have n3_ := Aside0.mk ((by rw [hg]; exact (below_size (by repeat (first | (with_reducible first | exact HB.out | apply below_alloc | apply pw_below_drewN | apply below_drew1) | exact HB.out))) : w.heap.size ≤ gb177)); clear HB; have HB := n0_; have BK177 := n1_; have GW177 := n2_; have GE177 := n3_; clear n0_ n1_ n2_ n3_; clear hb hbox hg) | ((with_reducible refine gate_dst (N := 3) rfl ?_); refine box_event ?hg (N := 3) ?hd (cs := #[.int .i64 a1_0, .int .i64 a1_1, .int .i64 a1_2, .int .i64 a1_3, .string a1_4, .slice A1_5 l1_5.length c1_5]) (t := 35) ?hr ?_; (case hd => rfl); (case hg => rfl); (case hr => first | (go_simp; done) | (go_simp; rfl)); intro gb178 hg w30 hbox hb; have n0_ := Aside0.mk (blk_below (g := gb177) (o := .cells #[.int .i64 a0_0, .int .i64 a0_1, .int .i64 a0_2, .int .i64 a0_3, .string a0_4, .slice A0_5 l0_5.length c0_5] 35 (0, 0)) (by (with_reducible repeat (first | refine blk_drewN ?_ _ | refine blk_drew ?_ | refine blk_alloc ?_ _)); exact BK177.out) hb); have n1_ := Aside0.mk (below_step (by repeat (first | (with_reducible first | exact HB.out | apply below_alloc | apply pw_below_drewN | apply below_drew1 | refine below_set ?_ GE177.out) | exact HB.out)) hb); have n2_ := Aside0.mk (hbox); have n3_ := Aside0.mk ((by rw [hg]; exact (below_size (by repeat (first | (with_reducible first | exact HB.out | apply below_alloc | apply pw_below_drewN | apply below_drew1 | refine below_set ?_ GE177.out) | exact HB.out))) : w.heap.size ≤ gb178)); have n4_ := Aside0.mk ((by rw [hg]; exact (below_size (by repeat (first | (with_reducible first | exact HB.out | apply below_alloc | apply pw_below_drewN | apply below_drew1 | refine below_set ?_ GE177.out) | exact HB.out))) : w.heap.size ≤ gb178)); have n5_ := Aside0.mk ((by rw [hg]; exact Nat.ne_of_lt (blk_lt (g := gb177) (o := .cells #[.int .i64 a0_0, .int .i64 a0_1, .int .i64 a0_2, .int .i64 a0_3, .string a0_4, .slice A0_5 l0_5.length c0_5] 35 (0, 0)) (by (with_reducible repeat (first | refine blk_drewN ?_ _ | refine blk_drew ?_ | refine blk_alloc ?_ _)); exact BK177.out)) : gb177 ≠ gb178)); have n6_ := Aside0.mk ((by rw [hg]; exact Nat.ne_of_gt (blk_lt (g := gb177) (o := .cells #[.int .i64 a0_0, .int .i64 a0_1, .int .i64 a0_2, .int .i64 a0_3, .string a0_4, .slice A0_5 l0_5.length c0_5] 35 (0, 0)) (by (with_reducible repeat (first | refine blk_drewN ?_ _ | refine blk_drew ?_ | refine blk_alloc ?_ _)); exact BK177.out)) : gb178 ≠ gb177)); clear BK177; clear HB; have BK177 := n0_; have HB := n1_; have BK178 := n2_; have GW178 := n3_; have GE178 := n4_; have NB177_178 := n5_; have NB178_177 := n6_; clear n0_ n1_ n2_ n3_ n4_ n5_ n6_; clear hb hbox hg; have hnb31 := NB177_178.out; have hnc31 := NB178_177.out; have hcz32_0 : w30.cell? ⟨gb177, 0, none⟩ = some (.int .i64 a0_0) := (blk_cell BK177.out 0).trans rfl; have hcz32_1 : w30.cell? ⟨gb177, 1, none⟩ = some (.int .i64 a0_1) := (blk_cell BK177.out 1).trans rfl; have hcz32_2 : w30.cell? ⟨gb177, 2, none⟩ = some (.int .i64 a0_2) := (blk_cell BK177.out 2).trans rfl; have hcz32_3 : w30.cell? ⟨gb177, 3, none⟩ = some (.int .i64 a0_3) := (blk_cell BK177.out 3).trans rfl; have hcz32_4 : w30.cell? ⟨gb177, 4, none⟩ = some (.string a0_4) := (blk_cell BK177.out 4).trans rfl; have hcz32_5 : w30.cell? ⟨gb177, 5, none⟩ = some (.slice A0_5 l0_5.length c0_5) := (blk_cell BK177.out 5).trans rfl; have hfz32_0 := blk_frozen BK177.out 0; have hfz32_1 := blk_frozen BK177.out 1; have hfz32_2 := blk_frozen BK177.out 2; have hfz32_3 := blk_frozen BK177.out 3; have hfz32_4 := blk_frozen BK177.out 4; have hfz32_5 := blk_frozen BK177.out 5; have hcz33_0 : w30.cell? ⟨gb178, 0, none⟩ = some (.int .i64 a1_0) := (blk_cell BK178.out 0).trans rfl; have hcz33_1 : w30.cell? ⟨gb178, 1, none⟩ = some (.int .i64 a1_1) := (blk_cell BK178.out 1).trans rfl; have hcz33_2 : w30.cell? ⟨gb178, 2, none⟩ = some (.int .i64 a1_2) := (blk_cell BK178.out 2).trans rfl; have hcz33_3 : w30.cell? ⟨gb178, 3, none⟩ = some (.int .i64 a1_3) := (blk_cell BK178.out 3).trans rfl; have hcz33_4 : w30.cell? ⟨gb178, 4, none⟩ = some (.string a1_4) := (blk_cell BK178.out 4).trans rfl; have hcz33_5 : w30.cell? ⟨gb178, 5, none⟩ = some (.slice A1_5 l1_5.length c1_5) := (blk_cell BK178.out 5).trans rfl; have hfz33_0 := blk_frozen BK178.out 0; have hfz33_1 := blk_frozen BK178.out 1; have hfz33_2 := blk_frozen BK178.out 2; have hfz33_3 := blk_frozen BK178.out 3; have hfz33_4 := blk_frozen BK178.out 4; have hfz33_5 := blk_frozen BK178.out 5) | ((with_reducible refine gate_callee (f := 53) rfl ?_); refine goesL_ (some 10) rfl rfl Try.func53 (by kernel_rfl) rfl #[.slice A0_5 l0_5.length c0_5, .slice A1_5 l1_5.length c1_5] rfl (by (try simp only [List.map_toArray, List.map_cons, List.map_nil]); first | done | rfl | (simp only [List.length_drop, List.length_take]; rfl)) ?_; (with_reducible refine (copyholdref01_Strings.calls k _ _ l0_5 _ _ l1_5 true _ ?side1 ?side2 ?side3 ?side4 A3.out).mono ?_); (case side1 => repeat (first | exact (Kd.C_below HR0_5.out HB.out) | (with_reducible refine Kd.C_alloc ?_ _) | (with_reducible refine Kd.C_drewN ?_ _) | (with_reducible refine Kd.C_drew ?_))); (case side2 => exact HC0_5.out); (case side3 => repeat (first | exact (Kd.C_below HR1_5.out HB.out) | (with_reducible refine Kd.C_alloc ?_ _) | (with_reducible refine Kd.C_drewN ?_ _) | (with_reducible refine Kd.C_drew ?_))); (case side4 => exact HC1_5.out); rintro e w' ⟨rfl, ⟨nd, rfl⟩⟩; refine ⟨_, rfl, ?_⟩))
   go_ret
   exact ⟨by first | rfl | (simp [errW_none, errW_some] <;> rfl) | (simp [*, errW_none, errW_some] <;> rfl), by repeat (first | (with_reducible first | exact HB.out | apply below_alloc | apply pw_below_drewN | apply below_drew1 | refine below_set ?_ GE177.out | refine below_set ?_ GE178.out) | exact HB.out)⟩
 ·replace c4 := Bool.eq_false_iff.mpr c4
  subst c4
  have H1 : (some false) = some r := by rw [if_neg (show ¬ (false = true) by decide)] at H; exact H
  clear H
  have H := H1
  clear H1
  obtain rfl := Option.some.inj H
  go_enter Try.func30, Try.ntmps30
  go_wp2_with (first | ((with_reducible refine gate_dst (N := 2) rfl ?_); refine box_event ?hg (N := 2) ?hd (cs := #[.int .i64 a0_0, .int .i64 a0_1, .int .i64 a0_2, .int .i64 a0_3, .string a0_4, .slice A0_5 l0_5.length c0_5]) (t := 35) ?hr ?_; (case hd => rfl); (case hg => rfl); (case hr => first | (go_simp; done) | (go_simp; rfl)); intro gb177 hg w34 hbox hb; have n0_ := Aside0.mk (below_step (by repeat (first | (with_reducible first | exact HB.out | apply below_alloc | apply pw_below_drewN | apply below_drew1) | exact HB.out)) hb); have n1_ := Aside0.mk (hbox); have n2_ := Aside0.mk ((by rw [hg]; exact (below_size (by repeat (first | (with_reducible first | exact HB.out | apply below_alloc | apply pw_below_drewN | apply below_drew1) | exact HB.out))) : w.heap.size ≤ gb177)); have n3_ := Aside0.mk ((by rw [hg]; exact (below_size (by repeat (first | (with_reducible first | exact HB.out | apply below_alloc | apply pw_below_drewN | apply below_drew1) | exact HB.out))) : w.heap.size ≤ gb177)); clear HB; have HB := n0_; have BK177 := n1_; have GW177 := n2_; have GE177 := n3_; clear n0_ n1_ n2_ n3_; clear hb hbox hg) | ((with_reducible refine gate_dst (N := 3) rfl ?_); refine box_event ?hg (N := 3) ?hd (cs := #[.int .i64 a1_0, .int .i64 a1_1, .int .i64 a1_2, .int .i64 a1_3, .string a1_4, .slice A1_5 l1_5.length c1_5]) (t := 35) ?hr ?_; (case hd => rfl); (case hg => rfl); (case hr => first | (go_simp; done) | (go_simp; rfl)); intro gb178 hg w35 hbox hb; have n0_ := Aside0.mk (blk_below (g := gb177) (o := .cells #[.int .i64 a0_0, .int .i64 a0_1, .int .i64 a0_2, .int .i64 a0_3, .string a0_4, .slice A0_5 l0_5.length c0_5] 35 (0, 0)) (by (with_reducible repeat (first | refine blk_drewN ?_ _ | refine blk_drew ?_ | refine blk_alloc ?_ _)); exact BK177.out) hb); have n1_ := Aside0.mk (below_step (by repeat (first | (with_reducible first | exact HB.out | apply below_alloc | apply pw_below_drewN | apply below_drew1 | refine below_set ?_ GE177.out) | exact HB.out)) hb); have n2_ := Aside0.mk (hbox); have n3_ := Aside0.mk ((by rw [hg]; exact (below_size (by repeat (first | (with_reducible first | exact HB.out | apply below_alloc | apply pw_below_drewN | apply below_drew1 | refine below_set ?_ GE177.out) | exact HB.out))) : w.heap.size ≤ gb178)); have n4_ := Aside0.mk ((by rw [hg]; exact (below_size (by repeat (first | (with_reducible first | exact HB.out | apply below_alloc | apply pw_below_drewN | apply below_drew1 | refine below_set ?_ GE177.out) | exact HB.out))) : w.heap.size ≤ gb178)); have n5_ := Aside0.mk ((by rw [hg]; exact Nat.ne_of_lt (blk_lt (g := gb177) (o := .cells #[.int .i64 a0_0, .int .i64 a0_1, .int .i64 a0_2, .int .i64 a0_3, .string a0_4, .slice A0_5 l0_5.length c0_5] 35 (0, 0)) (by (with_reducible repeat (first | refine blk_drewN ?_ _ | refine blk_drew ?_ | refine blk_alloc ?_ _)); exact BK177.out)) : gb177 ≠ gb178)); have n6_ := Aside0.mk ((by rw [hg]; exact Nat.ne_of_gt (blk_lt (g := gb177) (o := .cells #[.int .i64 a0_0, .int .i64 a0_1, .int .i64 a0_2, .int .i64 a0_3, .string a0_4, .slice A0_5 l0_5.length c0_5] 35 (0, 0)) (by (with_reducible repeat (first | refine blk_drewN ?_ _ | refine blk_drew ?_ | refine blk_alloc ?_ _)); exact BK177.out)) : gb178 ≠ gb177)); clear BK177; clear HB; have BK177 := n0_; have HB := n1_; have BK178 := n2_; have GW178 := n3_; have GE178 := n4_; have NB177_178 := n5_; have NB178_177 := n6_; clear n0_ n1_ n2_ n3_ n4_ n5_ n6_; clear hb hbox hg; have hnb36 := NB177_178.out; have hnc36 := NB178_177.out; have hcz37_0 : w35.cell? ⟨gb177, 0, none⟩ = some (.int .i64 a0_0) := (blk_cell BK177.out 0).trans rfl; have hcz37_1 : w35.cell? ⟨gb177, 1, none⟩ = some (.int .i64 a0_1) := (blk_cell BK177.out 1).trans rfl; have hcz37_2 : w35.cell? ⟨gb177, 2, none⟩ = some (.int .i64 a0_2) := (blk_cell BK177.out 2).trans rfl; have hcz37_3 : w35.cell? ⟨gb177, 3, none⟩ = some (.int .i64 a0_3) := (blk_cell BK177.out 3).trans rfl; have hcz37_4 : w35.cell? ⟨gb177, 4, none⟩ = some (.string a0_4) := (blk_cell BK177.out 4).trans rfl; have hcz37_5 : w35.cell? ⟨gb177, 5, none⟩ = some (.slice A0_5 l0_5.length c0_5) := (blk_cell BK177.out 5).trans rfl; have hfz37_0 := blk_frozen BK177.out 0; have hfz37_1 := blk_frozen BK177.out 1; have hfz37_2 := blk_frozen BK177.out 2; have hfz37_3 := blk_frozen BK177.out 3; have hfz37_4 := blk_frozen BK177.out 4; have hfz37_5 := blk_frozen BK177.out 5; have hcz38_0 : w35.cell? ⟨gb178, 0, none⟩ = some (.int .i64 a1_0) := (blk_cell BK178.out 0).trans rfl; have hcz38_1 : w35.cell? ⟨gb178, 1, none⟩ = some (.int .i64 a1_1) := (blk_cell BK178.out 1).trans rfl; have hcz38_2 : w35.cell? ⟨gb178, 2, none⟩ = some (.int .i64 a1_2) := (blk_cell BK178.out 2).trans rfl; have hcz38_3 : w35.cell? ⟨gb178, 3, none⟩ = some (.int .i64 a1_3) := (blk_cell BK178.out 3).trans rfl; have hcz38_4 : w35.cell? ⟨gb178, 4, none⟩ = some (.string a1_4) := (blk_cell BK178.out 4).trans rfl; have hcz38_5 : w35.cell? ⟨gb178, 5, none⟩ = some (.slice A1_5 l1_5.length c1_5) := (blk_cell BK178.out 5).trans rfl; have hfz38_0 := blk_frozen BK178.out 0; have hfz38_1 := blk_frozen BK178.out 1; have hfz38_2 := blk_frozen BK178.out 2; have hfz38_3 := blk_frozen BK178.out 3; have hfz38_4 := blk_frozen BK178.out 4; have hfz38_5 := blk_frozen BK178.out 5) | ((with_reducible refine gate_callee (f := 53) rfl ?_); refine goesL_ (some 10) rfl rfl Try.func53 (by kernel_rfl) rfl #[.slice A0_5 l0_5.length c0_5, .slice A1_5 l1_5.length c1_5] rfl (by (try simp only [List.map_toArray, List.map_cons, List.map_nil]); first | done | rfl | (simp only [List.length_drop, List.length_take]; rfl)) ?_; (with_reducible refine (copyholdref01_Strings.calls k _ _ l0_5 _ _ l1_5 false _ ?side1 ?side2 ?side3 ?side4 A3.out).mono ?_); (case side1 => repeat (first | exact (Kd.C_below HR0_5.out HB.out) | (with_reducible refine Kd.C_alloc ?_ _) | (with_reducible refine Kd.C_drewN ?_ _) | (with_reducible refine Kd.C_drew ?_))); (case side2 => exact HC0_5.out); (case side3 => repeat (first | exact (Kd.C_below HR1_5.out HB.out) | (with_reducible refine Kd.C_alloc ?_ _) | (with_reducible refine Kd.C_drewN ?_ _) | (with_reducible refine Kd.C_drew ?_))); (case side4 => exact HC1_5.out); rintro e w' ⟨rfl, ⟨nd, rfl⟩⟩; refine ⟨_, rfl, ?_⟩))
  go_ret
  exact ⟨by first | rfl | (simp [errW_none, errW_some] <;> rfl) | (simp [*, errW_none, errW_some] <;> rfl), by repeat (first | (with_reducible first | exact HB.out | apply below_alloc | apply pw_below_drewN | apply below_drew1 | refine below_set ?_ GE177.out | refine below_set ?_ GE178.out) | exact HB.out)⟩

/-! ### copyholdref15_Same: function 14 -/
def copyholdref15_Same.f (k : Nat) (a0_0 : Int) (a0_1 : Int) (a0_2 : Int) (a0_3 : Int) (a0_4 : Int) (a0_5 : Int) (a0_6 : Int) (a0_7 : Int) (a0_8 : Int) (a0_9 : ByteArray) (l0_10 : List ByteArray) (a1_0 : Int) (a1_1 : Int) (a1_2 : Int) (a1_3 : Int) (a1_4 : Int) (a1_5 : Int) (a1_6 : Int) (a1_7 : Int) (a1_8 : Int) (a1_9 : ByteArray) (l1_10 : List ByteArray) : Option (Bool) := (copyholdref11_Same.f k a0_5 a0_6 a0_7 a0_8 a0_9 l0_10 a1_5 a1_6 a1_7 a1_8 a1_9 l1_10).bind fun t182 => (if t182 = true then (if a0_0 = a1_0 then (if a0_1 = a1_1 then (if a0_2 = a1_2 then (if a0_3 = a1_3 then (some (a0_4 == a1_4)) else (some false)) else (some false)) else (some false)) else (some false)) else (some false))
theorem copyholdref15_Same.mono : ∀ a0 a1 a2 a3 a4 a5 a6 a7 a8 a9 a10 a11 a12 a13 a14 a15 a16 a17 a18 a19 a20 a21 k, LeO (copyholdref15_Same.f k a0 a1 a2 a3 a4 a5 a6 a7 a8 a9 a10 a11 a12 a13 a14 a15 a16 a17 a18 a19 a20 a21) (copyholdref15_Same.f (k + 1) a0 a1 a2 a3 a4 a5 a6 a7 a8 a9 a10 a11 a12 a13 a14 a15 a16 a17 a18 a19 a20 a21) := by
 intro a0 a1 a2 a3 a4 a5 a6 a7 a8 a9 a10 a11 a12 a13 a14 a15 a16 a17 a18 a19 a20 a21 k
 unfold copyholdref15_Same.f
 repeat' first
   | (with_reducible exact copyholdref11_Same.mono _ _ _ _ _ _ _ _ _ _ _ _ _)
   | (with_reducible exact LeO.refl _)
   | (with_reducible exact LeO.none _)
   | (with_reducible refine LeO.ite ?_ ?_)
   | (with_reducible refine LeO.bind ?_ (fun _ => ?_))
   | exact copyholdref11_Same.mono _ _ _ _ _ _ _ _ _ _ _ _ _
   | exact LeO.none _
   | refine LeO.ite ?_ ?_
   | refine LeO.bind ?_ (fun _ => ?_)
set_option maxHeartbeats 8000000 in
set_option maxRecDepth 100000 in
theorem copyholdref15_Same.calls (k : Nat) (a0_0 : Int) (a0_1 : Int) (a0_2 : Int) (a0_3 : Int) (a0_4 : Int) (a0_5 : Int) (a0_6 : Int) (a0_7 : Int) (a0_8 : Int) (a0_9 : ByteArray) (A0_10 : Option Addr) (c0_10 : Nat) (l0_10 : List ByteArray) (a1_0 : Int) (a1_1 : Int) (a1_2 : Int) (a1_3 : Int) (a1_4 : Int) (a1_5 : Int) (a1_6 : Int) (a1_7 : Int) (a1_8 : Int) (a1_9 : ByteArray) (A1_10 : Option Addr) (c1_10 : Nat) (l1_10 : List ByteArray) (r : Bool) (w : World) (hr0_10 : Kd.C Kd.string w A0_10 l0_10.length l0_10) (hc0_10 : l0_10.length ≤ c0_10) (hr1_10 : Kd.C Kd.string w A1_10 l1_10.length l1_10) (hc1_10 : l1_10.length ≤ c1_10) (h : copyholdref15_Same.f k a0_0 a0_1 a0_2 a0_3 a0_4 a0_5 a0_6 a0_7 a0_8 a0_9 l0_10 a1_0 a1_1 a1_2 a1_3 a1_4 a1_5 a1_6 a1_7 a1_8 a1_9 l1_10 = some r) :
  Calls Try.prog 14 #[.agg #[.int .i64 a0_0, .int .i64 a0_1, .int .i64 a0_2, .int .i64 a0_3, .int .i64 a0_4, .int .i64 a0_5, .int .i64 a0_6, .int .i64 a0_7, .int .i64 a0_8, .string a0_9, .slice A0_10 l0_10.length c0_10], .agg #[.int .i64 a1_0, .int .i64 a1_1, .int .i64 a1_2, .int .i64 a1_3, .int .i64 a1_4, .int .i64 a1_5, .int .i64 a1_6, .int .i64 a1_7, .int .i64 a1_8, .string a1_9, .slice A1_10 l1_10.length c1_10]] w fun e w' => e = .returned (.bool r) ∧ Below w.heap.size w w' := by
 have hu37 := Try.underlying37
 have hu35 := Try.underlying35
 have HR0_10 := Aside0.mk hr0_10
 have HC0_10 := Aside0.mk hc0_10
 clear hr0_10 hc0_10
 have HR1_10 := Aside0.mk hr1_10
 have HC1_10 := Aside0.mk hc1_10
 clear hr1_10 hc1_10
 have HB := Aside0.mk (Below.refl w.heap.size w)
 have H : ((copyholdref11_Same.f k a0_5 a0_6 a0_7 a0_8 a0_9 l0_10 a1_5 a1_6 a1_7 a1_8 a1_9 l1_10).bind fun t182 => (if t182 = true then (if a0_0 = a1_0 then (if a0_1 = a1_1 then (if a0_2 = a1_2 then (if a0_3 = a1_3 then (some (a0_4 == a1_4)) else (some false)) else (some false)) else (some false)) else (some false)) else (some false))) = some r := h
 clear h
 replace H := Option.bind_eq_some_iff.mp H
 obtain ⟨t182, A30, H⟩ := H
 replace H : (if t182 = true then (if a0_0 = a1_0 then (if a0_1 = a1_1 then (if a0_2 = a1_2 then (if a0_3 = a1_3 then (some (a0_4 == a1_4)) else (some false)) else (some false)) else (some false)) else (some false)) else (some false)) = some r := H
 have A3 := Aside0.mk A30
 clear A30
 by_cases c4 : t182 = true
 ·subst c4
  have H1 : (if a0_0 = a1_0 then (if a0_1 = a1_1 then (if a0_2 = a1_2 then (if a0_3 = a1_3 then (some (a0_4 == a1_4)) else (some false)) else (some false)) else (some false)) else (some false)) = some r := by rw [if_pos rfl] at H; exact H
  clear H
  have H := H1
  clear H1
  by_cases c5 : a0_0 = a1_0
  ·rw [if_pos c5] at H
   have c5b0 : (a0_0 == a1_0) = true := beq_iff_eq.mpr c5
   have c5b1 : (a0_0 != a1_0) = false := bne_eq_false_iff_eq.mpr c5
   clear c5
   by_cases c6 : a0_1 = a1_1
   ·rw [if_pos c6] at H
    have c6b0 : (a0_1 == a1_1) = true := beq_iff_eq.mpr c6
    have c6b1 : (a0_1 != a1_1) = false := bne_eq_false_iff_eq.mpr c6
    clear c6
    by_cases c7 : a0_2 = a1_2
    ·rw [if_pos c7] at H
     have c7b0 : (a0_2 == a1_2) = true := beq_iff_eq.mpr c7
     have c7b1 : (a0_2 != a1_2) = false := bne_eq_false_iff_eq.mpr c7
     clear c7
     by_cases c8 : a0_3 = a1_3
     ·rw [if_pos c8] at H
      have c8b0 : (a0_3 == a1_3) = true := beq_iff_eq.mpr c8
      have c8b1 : (a0_3 != a1_3) = false := bne_eq_false_iff_eq.mpr c8
      clear c8
      obtain rfl := Option.some.inj H
      go_enter Try.func14, Try.ntmps14
      go_wp2_with (first | ((with_reducible refine gate_dst (N := 2) rfl ?_); refine box_event ?hg (N := 2) ?hd (cs := #[.int .i64 a0_0, .int .i64 a0_1, .int .i64 a0_2, .int .i64 a0_3, .int .i64 a0_4, .int .i64 a0_5, .int .i64 a0_6, .int .i64 a0_7, .int .i64 a0_8, .string a0_9, .slice A0_10 l0_10.length c0_10]) (t := 37) ?hr ?_; (case hd => rfl); (case hg => rfl); (case hr => first | (go_simp; done) | (go_simp; rfl)); intro gb180 hg w9 hbox hb; have n0_ := Aside0.mk (below_step (by repeat (first | (with_reducible first | exact HB.out | apply below_alloc | apply pw_below_drewN | apply below_drew1) | exact HB.out)) hb); have n1_ := Aside0.mk (hbox); have n2_ := Aside0.mk ((by rw [hg]; exact (below_size (by repeat (first | (with_reducible first | exact HB.out | apply below_alloc | apply pw_below_drewN | apply below_drew1) | exact HB.out))) : w.heap.size ≤ gb180)); have n3_ := Aside0.mk ((by rw [hg]; exact (below_size (by repeat (first | (with_reducible first | exact HB.out | apply below_alloc | apply pw_below_drewN | apply below_drew1) | exact HB.out))) : w.heap.size ≤ gb180)); clear HB; have HB := n0_; have BK180 := n1_; have GW180 := n2_; have GE180 := n3_; clear n0_ n1_ n2_ n3_; clear hb hbox hg) | ((with_reducible refine gate_dst (N := 3) rfl ?_); refine box_event ?hg (N := 3) ?hd (cs := #[.int .i64 a1_0, .int .i64 a1_1, .int .i64 a1_2, .int .i64 a1_3, .int .i64 a1_4, .int .i64 a1_5, .int .i64 a1_6, .int .i64 a1_7, .int .i64 a1_8, .string a1_9, .slice A1_10 l1_10.length c1_10]) (t := 37) ?hr ?_; (case hd => rfl); (case hg => rfl); (case hr => first | (go_simp; done) | (go_simp; rfl)); intro gb181 hg w10 hbox hb; have n0_ := Aside0.mk (blk_below (g := gb180) (o := .cells #[.int .i64 a0_0, .int .i64 a0_1, .int .i64 a0_2, .int .i64 a0_3, .int .i64 a0_4, .int .i64 a0_5, .int .i64 a0_6, .int .i64 a0_7, .int .i64 a0_8, .string a0_9, .slice A0_10 l0_10.length c0_10] 37 (0, 0)) (by (with_reducible repeat (first | refine blk_drewN ?_ _ | refine blk_drew ?_ | refine blk_alloc ?_ _)); exact BK180.out) hb); have n1_ := Aside0.mk (below_step (by repeat (first | (with_reducible first | exact HB.out | apply below_alloc | apply pw_below_drewN | apply below_drew1 | refine below_set ?_ GE180.out) | exact HB.out)) hb); have n2_ := Aside0.mk (hbox); have n3_ := Aside0.mk ((by rw [hg]; exact (below_size (by repeat (first | (with_reducible first | exact HB.out | apply below_alloc | apply pw_below_drewN | apply below_drew1 | refine below_set ?_ GE180.out) | exact HB.out))) : w.heap.size ≤ gb181)); have n4_ := Aside0.mk ((by rw [hg]; exact (below_size (by repeat (first | (with_reducible first | exact HB.out | apply below_alloc | apply pw_below_drewN | apply below_drew1 | refine below_set ?_ GE180.out) | exact HB.out))) : w.heap.size ≤ gb181)); have n5_ := Aside0.mk ((by rw [hg]; exact Nat.ne_of_lt (blk_lt (g := gb180) (o := .cells #[.int .i64 a0_0, .int .i64 a0_1, .int .i64 a0_2, .int .i64 a0_3, .int .i64 a0_4, .int .i64 a0_5, .int .i64 a0_6, .int .i64 a0_7, .int .i64 a0_8, .string a0_9, .slice A0_10 l0_10.length c0_10] 37 (0, 0)) (by (with_reducible repeat (first | refine blk_drewN ?_ _ | refine blk_drew ?_ | refine blk_alloc ?_ _)); exact BK180.out)) : gb180 ≠ gb181)); have n6_ := Aside0.mk ((by rw [hg]; exact Nat.ne_of_gt (blk_lt (g := gb180) (o := .cells #[.int .i64 a0_0, .int .i64 a0_1, .int .i64 a0_2, .int .i64 a0_3, .int .i64 a0_4, .int .i64 a0_5, .int .i64 a0_6, .int .i64 a0_7, .int .i64 a0_8, .string a0_9, .slice A0_10 l0_10.length c0_10] 37 (0, 0)) (by (with_reducible repeat (first | refine blk_drewN ?_ _ | refine blk_drew ?_ | refine blk_alloc ?_ _)); exact BK180.out)) : gb181 ≠ gb180)); clear BK180; clear HB; have BK180 := n0_; have HB := n1_; have BK181 := n2_; have GW181 := n3_; have GE181 := n4_; have NB180_181 := n5_; have NB181_180 := n6_; clear n0_ n1_ n2_ n3_ n4_ n5_ n6_; clear hb hbox hg; have hnb11 := NB180_181.out; have hnc11 := NB181_180.out; have hcz12_0 : w10.cell? ⟨gb180, 0, none⟩ = some (.int .i64 a0_0) := (blk_cell BK180.out 0).trans rfl; have hcz12_1 : w10.cell? ⟨gb180, 1, none⟩ = some (.int .i64 a0_1) := (blk_cell BK180.out 1).trans rfl; have hcz12_2 : w10.cell? ⟨gb180, 2, none⟩ = some (.int .i64 a0_2) := (blk_cell BK180.out 2).trans rfl; have hcz12_3 : w10.cell? ⟨gb180, 3, none⟩ = some (.int .i64 a0_3) := (blk_cell BK180.out 3).trans rfl; have hcz12_4 : w10.cell? ⟨gb180, 4, none⟩ = some (.int .i64 a0_4) := (blk_cell BK180.out 4).trans rfl; have hcz12_5 : w10.cell? ⟨gb180, 5, none⟩ = some (.int .i64 a0_5) := (blk_cell BK180.out 5).trans rfl; have hcz12_6 : w10.cell? ⟨gb180, 6, none⟩ = some (.int .i64 a0_6) := (blk_cell BK180.out 6).trans rfl; have hcz12_7 : w10.cell? ⟨gb180, 7, none⟩ = some (.int .i64 a0_7) := (blk_cell BK180.out 7).trans rfl; have hcz12_8 : w10.cell? ⟨gb180, 8, none⟩ = some (.int .i64 a0_8) := (blk_cell BK180.out 8).trans rfl; have hcz12_9 : w10.cell? ⟨gb180, 9, none⟩ = some (.string a0_9) := (blk_cell BK180.out 9).trans rfl; have hcz12_10 : w10.cell? ⟨gb180, 10, none⟩ = some (.slice A0_10 l0_10.length c0_10) := (blk_cell BK180.out 10).trans rfl; have hfz12_0 := blk_frozen BK180.out 0; have hfz12_1 := blk_frozen BK180.out 1; have hfz12_2 := blk_frozen BK180.out 2; have hfz12_3 := blk_frozen BK180.out 3; have hfz12_4 := blk_frozen BK180.out 4; have hfz12_5 := blk_frozen BK180.out 5; have hfz12_6 := blk_frozen BK180.out 6; have hfz12_7 := blk_frozen BK180.out 7; have hfz12_8 := blk_frozen BK180.out 8; have hfz12_9 := blk_frozen BK180.out 9; have hfz12_10 := blk_frozen BK180.out 10; have hcz13_0 : w10.cell? ⟨gb181, 0, none⟩ = some (.int .i64 a1_0) := (blk_cell BK181.out 0).trans rfl; have hcz13_1 : w10.cell? ⟨gb181, 1, none⟩ = some (.int .i64 a1_1) := (blk_cell BK181.out 1).trans rfl; have hcz13_2 : w10.cell? ⟨gb181, 2, none⟩ = some (.int .i64 a1_2) := (blk_cell BK181.out 2).trans rfl; have hcz13_3 : w10.cell? ⟨gb181, 3, none⟩ = some (.int .i64 a1_3) := (blk_cell BK181.out 3).trans rfl; have hcz13_4 : w10.cell? ⟨gb181, 4, none⟩ = some (.int .i64 a1_4) := (blk_cell BK181.out 4).trans rfl; have hcz13_5 : w10.cell? ⟨gb181, 5, none⟩ = some (.int .i64 a1_5) := (blk_cell BK181.out 5).trans rfl; have hcz13_6 : w10.cell? ⟨gb181, 6, none⟩ = some (.int .i64 a1_6) := (blk_cell BK181.out 6).trans rfl; have hcz13_7 : w10.cell? ⟨gb181, 7, none⟩ = some (.int .i64 a1_7) := (blk_cell BK181.out 7).trans rfl; have hcz13_8 : w10.cell? ⟨gb181, 8, none⟩ = some (.int .i64 a1_8) := (blk_cell BK181.out 8).trans rfl; have hcz13_9 : w10.cell? ⟨gb181, 9, none⟩ = some (.string a1_9) := (blk_cell BK181.out 9).trans rfl; have hcz13_10 : w10.cell? ⟨gb181, 10, none⟩ = some (.slice A1_10 l1_10.length c1_10) := (blk_cell BK181.out 10).trans rfl; have hfz13_0 := blk_frozen BK181.out 0; have hfz13_1 := blk_frozen BK181.out 1; have hfz13_2 := blk_frozen BK181.out 2; have hfz13_3 := blk_frozen BK181.out 3; have hfz13_4 := blk_frozen BK181.out 4; have hfz13_5 := blk_frozen BK181.out 5; have hfz13_6 := blk_frozen BK181.out 6; have hfz13_7 := blk_frozen BK181.out 7; have hfz13_8 := blk_frozen BK181.out 8; have hfz13_9 := blk_frozen BK181.out 9; have hfz13_10 := blk_frozen BK181.out 10) | ((with_reducible refine gate_callee (f := 30) rfl ?_); refine goesL_ (some 10) rfl rfl Try.func30 (by kernel_rfl) rfl #[.agg #[.int .i64 a0_5, .int .i64 a0_6, .int .i64 a0_7, .int .i64 a0_8, .string a0_9, .slice A0_10 l0_10.length c0_10], .agg #[.int .i64 a1_5, .int .i64 a1_6, .int .i64 a1_7, .int .i64 a1_8, .string a1_9, .slice A1_10 l1_10.length c1_10]] rfl (by (try simp only [List.map_toArray, List.map_cons, List.map_nil]); first | done | rfl | (simp only [List.length_drop, List.length_take]; rfl)) ?_; (with_reducible refine (copyholdref11_Same.calls k a0_5 a0_6 a0_7 a0_8 a0_9 _ _ l0_10 a1_5 a1_6 a1_7 a1_8 a1_9 _ _ l1_10 true _ ?side1 ?side2 ?side3 ?side4 A3.out).mono ?_); (case side1 => repeat (first | exact (Kd.C_below HR0_10.out HB.out) | (with_reducible refine Kd.C_alloc ?_ _) | (with_reducible refine Kd.C_drewN ?_ _) | (with_reducible refine Kd.C_drew ?_))); (case side2 => exact HC0_10.out); (case side3 => repeat (first | exact (Kd.C_below HR1_10.out HB.out) | (with_reducible refine Kd.C_alloc ?_ _) | (with_reducible refine Kd.C_drewN ?_ _) | (with_reducible refine Kd.C_drew ?_))); (case side4 => exact HC1_10.out); rintro e w14 ⟨rfl, hb⟩; refine ⟨_, rfl, ?_⟩; have n0_ := Aside0.mk (blk_below (g := gb180) (o := .cells #[.int .i64 a0_0, .int .i64 a0_1, .int .i64 a0_2, .int .i64 a0_3, .int .i64 a0_4, .int .i64 a0_5, .int .i64 a0_6, .int .i64 a0_7, .int .i64 a0_8, .string a0_9, .slice A0_10 l0_10.length c0_10] 37 (0, 0)) (by (with_reducible repeat (first | refine blk_drewN ?_ _ | refine blk_drew ?_ | refine blk_alloc ?_ _)); exact BK180.out) hb); have n1_ := Aside0.mk (blk_below (g := gb181) (o := .cells #[.int .i64 a1_0, .int .i64 a1_1, .int .i64 a1_2, .int .i64 a1_3, .int .i64 a1_4, .int .i64 a1_5, .int .i64 a1_6, .int .i64 a1_7, .int .i64 a1_8, .string a1_9, .slice A1_10 l1_10.length c1_10] 37 (0, 0)) (by (with_reducible repeat (first | refine blk_drewN ?_ _ | refine blk_drew ?_ | refine blk_alloc ?_ _)); exact BK181.out) hb); have n2_ := Aside0.mk (below_step (by repeat (first | (with_reducible first | exact HB.out | apply below_alloc | apply pw_below_drewN | apply below_drew1 | refine below_set ?_ GE180.out | refine below_set ?_ GE181.out) | exact HB.out)) hb); clear BK180; clear BK181; clear HB; have BK180 := n0_; have BK181 := n1_; have HB := n2_; clear n0_ n1_ n2_; (try clear hb); (try clear hb2); (try clear hk); (try clear hi); have hcz15_0 : w14.cell? ⟨gb180, 0, none⟩ = some (.int .i64 a0_0) := (blk_cell BK180.out 0).trans rfl; have hcz15_1 : w14.cell? ⟨gb180, 1, none⟩ = some (.int .i64 a0_1) := (blk_cell BK180.out 1).trans rfl; have hcz15_2 : w14.cell? ⟨gb180, 2, none⟩ = some (.int .i64 a0_2) := (blk_cell BK180.out 2).trans rfl; have hcz15_3 : w14.cell? ⟨gb180, 3, none⟩ = some (.int .i64 a0_3) := (blk_cell BK180.out 3).trans rfl; have hcz15_4 : w14.cell? ⟨gb180, 4, none⟩ = some (.int .i64 a0_4) := (blk_cell BK180.out 4).trans rfl; have hcz15_5 : w14.cell? ⟨gb180, 5, none⟩ = some (.int .i64 a0_5) := (blk_cell BK180.out 5).trans rfl; have hcz15_6 : w14.cell? ⟨gb180, 6, none⟩ = some (.int .i64 a0_6) := (blk_cell BK180.out 6).trans rfl; have hcz15_7 : w14.cell? ⟨gb180, 7, none⟩ = some (.int .i64 a0_7) := (blk_cell BK180.out 7).trans rfl; have hcz15_8 : w14.cell? ⟨gb180, 8, none⟩ = some (.int .i64 a0_8) := (blk_cell BK180.out 8).trans rfl; have hcz15_9 : w14.cell? ⟨gb180, 9, none⟩ = some (.string a0_9) := (blk_cell BK180.out 9).trans rfl; have hcz15_10 : w14.cell? ⟨gb180, 10, none⟩ = some (.slice A0_10 l0_10.length c0_10) := (blk_cell BK180.out 10).trans rfl; have hfz15_0 := blk_frozen BK180.out 0; have hfz15_1 := blk_frozen BK180.out 1; have hfz15_2 := blk_frozen BK180.out 2; have hfz15_3 := blk_frozen BK180.out 3; have hfz15_4 := blk_frozen BK180.out 4; have hfz15_5 := blk_frozen BK180.out 5; have hfz15_6 := blk_frozen BK180.out 6; have hfz15_7 := blk_frozen BK180.out 7; have hfz15_8 := blk_frozen BK180.out 8; have hfz15_9 := blk_frozen BK180.out 9; have hfz15_10 := blk_frozen BK180.out 10; have hcz16_0 : w14.cell? ⟨gb181, 0, none⟩ = some (.int .i64 a1_0) := (blk_cell BK181.out 0).trans rfl; have hcz16_1 : w14.cell? ⟨gb181, 1, none⟩ = some (.int .i64 a1_1) := (blk_cell BK181.out 1).trans rfl; have hcz16_2 : w14.cell? ⟨gb181, 2, none⟩ = some (.int .i64 a1_2) := (blk_cell BK181.out 2).trans rfl; have hcz16_3 : w14.cell? ⟨gb181, 3, none⟩ = some (.int .i64 a1_3) := (blk_cell BK181.out 3).trans rfl; have hcz16_4 : w14.cell? ⟨gb181, 4, none⟩ = some (.int .i64 a1_4) := (blk_cell BK181.out 4).trans rfl; have hcz16_5 : w14.cell? ⟨gb181, 5, none⟩ = some (.int .i64 a1_5) := (blk_cell BK181.out 5).trans rfl; have hcz16_6 : w14.cell? ⟨gb181, 6, none⟩ = some (.int .i64 a1_6) := (blk_cell BK181.out 6).trans rfl; have hcz16_7 : w14.cell? ⟨gb181, 7, none⟩ = some (.int .i64 a1_7) := (blk_cell BK181.out 7).trans rfl; have hcz16_8 : w14.cell? ⟨gb181, 8, none⟩ = some (.int .i64 a1_8) := (blk_cell BK181.out 8).trans rfl; have hcz16_9 : w14.cell? ⟨gb181, 9, none⟩ = some (.string a1_9) := (blk_cell BK181.out 9).trans rfl; have hcz16_10 : w14.cell? ⟨gb181, 10, none⟩ = some (.slice A1_10 l1_10.length c1_10) := (blk_cell BK181.out 10).trans rfl; have hfz16_0 := blk_frozen BK181.out 0; have hfz16_1 := blk_frozen BK181.out 1; have hfz16_2 := blk_frozen BK181.out 2; have hfz16_3 := blk_frozen BK181.out 3; have hfz16_4 := blk_frozen BK181.out 4; have hfz16_5 := blk_frozen BK181.out 5; have hfz16_6 := blk_frozen BK181.out 6; have hfz16_7 := blk_frozen BK181.out 7; have hfz16_8 := blk_frozen BK181.out 8; have hfz16_9 := blk_frozen BK181.out 9; have hfz16_10 := blk_frozen BK181.out 10))
      go_ret
      exact ⟨by first | rfl | (simp [errW_none, errW_some] <;> rfl) | (simp [*, errW_none, errW_some] <;> rfl), by repeat (first | (with_reducible first | exact HB.out | apply below_alloc | apply pw_below_drewN | apply below_drew1 | refine below_set ?_ GE180.out | refine below_set ?_ GE181.out) | exact HB.out)⟩
     ·rw [if_neg c8] at H
      have c8b0 : (a0_3 == a1_3) = false := beq_eq_false_iff_ne.mpr c8
      have c8b1 : (a0_3 != a1_3) = true := bne_iff_ne.mpr c8
      obtain rfl := Option.some.inj H
      go_enter Try.func14, Try.ntmps14
      go_wp2_with (first | ((with_reducible refine gate_dst (N := 2) rfl ?_); refine box_event ?hg (N := 2) ?hd (cs := #[.int .i64 a0_0, .int .i64 a0_1, .int .i64 a0_2, .int .i64 a0_3, .int .i64 a0_4, .int .i64 a0_5, .int .i64 a0_6, .int .i64 a0_7, .int .i64 a0_8, .string a0_9, .slice A0_10 l0_10.length c0_10]) (t := 37) ?hr ?_; (case hd => rfl); (case hg => rfl); (case hr => first | (go_simp; done) | (go_simp; rfl)); intro gb180 hg w17 hbox hb; have n0_ := Aside0.mk (below_step (by repeat (first | (with_reducible first | exact HB.out | apply below_alloc | apply pw_below_drewN | apply below_drew1) | exact HB.out)) hb); have n1_ := Aside0.mk (hbox); have n2_ := Aside0.mk ((by rw [hg]; exact (below_size (by repeat (first | (with_reducible first | exact HB.out | apply below_alloc | apply pw_below_drewN | apply below_drew1) | exact HB.out))) : w.heap.size ≤ gb180)); have n3_ := Aside0.mk ((by rw [hg]; exact (below_size (by repeat (first | (with_reducible first | exact HB.out | apply below_alloc | apply pw_below_drewN | apply below_drew1) | exact HB.out))) : w.heap.size ≤ gb180)); clear HB; have HB := n0_; have BK180 := n1_; have GW180 := n2_; have GE180 := n3_; clear n0_ n1_ n2_ n3_; clear hb hbox hg) | ((with_reducible refine gate_dst (N := 3) rfl ?_); refine box_event ?hg (N := 3) ?hd (cs := #[.int .i64 a1_0, .int .i64 a1_1, .int .i64 a1_2, .int .i64 a1_3, .int .i64 a1_4, .int .i64 a1_5, .int .i64 a1_6, .int .i64 a1_7, .int .i64 a1_8, .string a1_9, .slice A1_10 l1_10.length c1_10]) (t := 37) ?hr ?_; (case hd => rfl); (case hg => rfl); (case hr => first | (go_simp; done) | (go_simp; rfl)); intro gb181 hg w18 hbox hb; have n0_ := Aside0.mk (blk_below (g := gb180) (o := .cells #[.int .i64 a0_0, .int .i64 a0_1, .int .i64 a0_2, .int .i64 a0_3, .int .i64 a0_4, .int .i64 a0_5, .int .i64 a0_6, .int .i64 a0_7, .int .i64 a0_8, .string a0_9, .slice A0_10 l0_10.length c0_10] 37 (0, 0)) (by (with_reducible repeat (first | refine blk_drewN ?_ _ | refine blk_drew ?_ | refine blk_alloc ?_ _)); exact BK180.out) hb); have n1_ := Aside0.mk (below_step (by repeat (first | (with_reducible first | exact HB.out | apply below_alloc | apply pw_below_drewN | apply below_drew1 | refine below_set ?_ GE180.out) | exact HB.out)) hb); have n2_ := Aside0.mk (hbox); have n3_ := Aside0.mk ((by rw [hg]; exact (below_size (by repeat (first | (with_reducible first | exact HB.out | apply below_alloc | apply pw_below_drewN | apply below_drew1 | refine below_set ?_ GE180.out) | exact HB.out))) : w.heap.size ≤ gb181)); have n4_ := Aside0.mk ((by rw [hg]; exact (below_size (by repeat (first | (with_reducible first | exact HB.out | apply below_alloc | apply pw_below_drewN | apply below_drew1 | refine below_set ?_ GE180.out) | exact HB.out))) : w.heap.size ≤ gb181)); have n5_ := Aside0.mk ((by rw [hg]; exact Nat.ne_of_lt (blk_lt (g := gb180) (o := .cells #[.int .i64 a0_0, .int .i64 a0_1, .int .i64 a0_2, .int .i64 a0_3, .int .i64 a0_4, .int .i64 a0_5, .int .i64 a0_6, .int .i64 a0_7, .int .i64 a0_8, .string a0_9, .slice A0_10 l0_10.length c0_10] 37 (0, 0)) (by (with_reducible repeat (first | refine blk_drewN ?_ _ | refine blk_drew ?_ | refine blk_alloc ?_ _)); exact BK180.out)) : gb180 ≠ gb181)); have n6_ := Aside0.mk ((by rw [hg]; exact Nat.ne_of_gt (blk_lt (g := gb180) (o := .cells #[.int .i64 a0_0, .int .i64 a0_1, .int .i64 a0_2, .int .i64 a0_3, .int .i64 a0_4, .int .i64 a0_5, .int .i64 a0_6, .int .i64 a0_7, .int .i64 a0_8, .string a0_9, .slice A0_10 l0_10.length c0_10] 37 (0, 0)) (by (with_reducible repeat (first | refine blk_drewN ?_ _ | refine blk_drew ?_ | refine blk_alloc ?_ _)); exact BK180.out)) : gb181 ≠ gb180)); clear BK180; clear HB; have BK180 := n0_; have HB := n1_; have BK181 := n2_; have GW181 := n3_; have GE181 := n4_; have NB180_181 := n5_; have NB181_180 := n6_; clear n0_ n1_ n2_ n3_ n4_ n5_ n6_; clear hb hbox hg; have hnb19 := NB180_181.out; have hnc19 := NB181_180.out; have hcz20_0 : w18.cell? ⟨gb180, 0, none⟩ = some (.int .i64 a0_0) := (blk_cell BK180.out 0).trans rfl; have hcz20_1 : w18.cell? ⟨gb180, 1, none⟩ = some (.int .i64 a0_1) := (blk_cell BK180.out 1).trans rfl; have hcz20_2 : w18.cell? ⟨gb180, 2, none⟩ = some (.int .i64 a0_2) := (blk_cell BK180.out 2).trans rfl; have hcz20_3 : w18.cell? ⟨gb180, 3, none⟩ = some (.int .i64 a0_3) := (blk_cell BK180.out 3).trans rfl; have hcz20_4 : w18.cell? ⟨gb180, 4, none⟩ = some (.int .i64 a0_4) := (blk_cell BK180.out 4).trans rfl; have hcz20_5 : w18.cell? ⟨gb180, 5, none⟩ = some (.int .i64 a0_5) := (blk_cell BK180.out 5).trans rfl; have hcz20_6 : w18.cell? ⟨gb180, 6, none⟩ = some (.int .i64 a0_6) := (blk_cell BK180.out 6).trans rfl; have hcz20_7 : w18.cell? ⟨gb180, 7, none⟩ = some (.int .i64 a0_7) := (blk_cell BK180.out 7).trans rfl; have hcz20_8 : w18.cell? ⟨gb180, 8, none⟩ = some (.int .i64 a0_8) := (blk_cell BK180.out 8).trans rfl; have hcz20_9 : w18.cell? ⟨gb180, 9, none⟩ = some (.string a0_9) := (blk_cell BK180.out 9).trans rfl; have hcz20_10 : w18.cell? ⟨gb180, 10, none⟩ = some (.slice A0_10 l0_10.length c0_10) := (blk_cell BK180.out 10).trans rfl; have hfz20_0 := blk_frozen BK180.out 0; have hfz20_1 := blk_frozen BK180.out 1; have hfz20_2 := blk_frozen BK180.out 2; have hfz20_3 := blk_frozen BK180.out 3; have hfz20_4 := blk_frozen BK180.out 4; have hfz20_5 := blk_frozen BK180.out 5; have hfz20_6 := blk_frozen BK180.out 6; have hfz20_7 := blk_frozen BK180.out 7; have hfz20_8 := blk_frozen BK180.out 8; have hfz20_9 := blk_frozen BK180.out 9; have hfz20_10 := blk_frozen BK180.out 10; have hcz21_0 : w18.cell? ⟨gb181, 0, none⟩ = some (.int .i64 a1_0) := (blk_cell BK181.out 0).trans rfl; have hcz21_1 : w18.cell? ⟨gb181, 1, none⟩ = some (.int .i64 a1_1) := (blk_cell BK181.out 1).trans rfl; have hcz21_2 : w18.cell? ⟨gb181, 2, none⟩ = some (.int .i64 a1_2) := (blk_cell BK181.out 2).trans rfl; have hcz21_3 : w18.cell? ⟨gb181, 3, none⟩ = some (.int .i64 a1_3) := (blk_cell BK181.out 3).trans rfl; have hcz21_4 : w18.cell? ⟨gb181, 4, none⟩ = some (.int .i64 a1_4) := (blk_cell BK181.out 4).trans rfl; have hcz21_5 : w18.cell? ⟨gb181, 5, none⟩ = some (.int .i64 a1_5) := (blk_cell BK181.out 5).trans rfl; have hcz21_6 : w18.cell? ⟨gb181, 6, none⟩ = some (.int .i64 a1_6) := (blk_cell BK181.out 6).trans rfl; have hcz21_7 : w18.cell? ⟨gb181, 7, none⟩ = some (.int .i64 a1_7) := (blk_cell BK181.out 7).trans rfl; have hcz21_8 : w18.cell? ⟨gb181, 8, none⟩ = some (.int .i64 a1_8) := (blk_cell BK181.out 8).trans rfl; have hcz21_9 : w18.cell? ⟨gb181, 9, none⟩ = some (.string a1_9) := (blk_cell BK181.out 9).trans rfl; have hcz21_10 : w18.cell? ⟨gb181, 10, none⟩ = some (.slice A1_10 l1_10.length c1_10) := (blk_cell BK181.out 10).trans rfl; have hfz21_0 := blk_frozen BK181.out 0; have hfz21_1 := blk_frozen BK181.out 1; have hfz21_2 := blk_frozen BK181.out 2; have hfz21_3 := blk_frozen BK181.out 3; have hfz21_4 := blk_frozen BK181.out 4; have hfz21_5 := blk_frozen BK181.out 5; have hfz21_6 := blk_frozen BK181.out 6; have hfz21_7 := blk_frozen BK181.out 7; have hfz21_8 := blk_frozen BK181.out 8; have hfz21_9 := blk_frozen BK181.out 9; have hfz21_10 := blk_frozen BK181.out 10) | ((with_reducible refine gate_callee (f := 30) rfl ?_); refine goesL_ (some 10) rfl rfl Try.func30 (by kernel_rfl) rfl #[.agg #[.int .i64 a0_5, .int .i64 a0_6, .int .i64 a0_7, .int .i64 a0_8, .string a0_9, .slice A0_10 l0_10.length c0_10], .agg #[.int .i64 a1_5, .int .i64 a1_6, .int .i64 a1_7, .int .i64 a1_8, .string a1_9, .slice A1_10 l1_10.length c1_10]] rfl (by (try simp only [List.map_toArray, List.map_cons, List.map_nil]); first | done | rfl | (simp only [List.length_drop, List.length_take]; rfl)) ?_; (with_reducible refine (copyholdref11_Same.calls k a0_5 a0_6 a0_7 a0_8 a0_9 _ _ l0_10 a1_5 a1_6 a1_7 a1_8 a1_9 _ _ l1_10 true _ ?side1 ?side2 ?side3 ?side4 A3.out).mono ?_); (case side1 => repeat (first | exact (Kd.C_below HR0_10.out HB.out) | (with_reducible refine Kd.C_alloc ?_ _) | (with_reducible refine Kd.C_drewN ?_ _) | (with_reducible refine Kd.C_drew ?_))); (case side2 => exact HC0_10.out); (case side3 => repeat (first | exact (Kd.C_below HR1_10.out HB.out) | (with_reducible refine Kd.C_alloc ?_ _) | (with_reducible refine Kd.C_drewN ?_ _) | (with_reducible refine Kd.C_drew ?_))); (case side4 => exact HC1_10.out); rintro e w22 ⟨rfl, hb⟩; refine ⟨_, rfl, ?_⟩; have n0_ := Aside0.mk (blk_below (g := gb180) (o := .cells #[.int .i64 a0_0, .int .i64 a0_1, .int .i64 a0_2, .int .i64 a0_3, .int .i64 a0_4, .int .i64 a0_5, .int .i64 a0_6, .int .i64 a0_7, .int .i64 a0_8, .string a0_9, .slice A0_10 l0_10.length c0_10] 37 (0, 0)) (by (with_reducible repeat (first | refine blk_drewN ?_ _ | refine blk_drew ?_ | refine blk_alloc ?_ _)); exact BK180.out) hb); have n1_ := Aside0.mk (blk_below (g := gb181) (o := .cells #[.int .i64 a1_0, .int .i64 a1_1, .int .i64 a1_2, .int .i64 a1_3, .int .i64 a1_4, .int .i64 a1_5, .int .i64 a1_6, .int .i64 a1_7, .int .i64 a1_8, .string a1_9, .slice A1_10 l1_10.length c1_10] 37 (0, 0)) (by (with_reducible repeat (first | refine blk_drewN ?_ _ | refine blk_drew ?_ | refine blk_alloc ?_ _)); exact BK181.out) hb); have n2_ := Aside0.mk (below_step (by repeat (first | (with_reducible first | exact HB.out | apply below_alloc | apply pw_below_drewN | apply below_drew1 | refine below_set ?_ GE180.out | refine below_set ?_ GE181.out) | exact HB.out)) hb); clear BK180; clear BK181; clear HB; have BK180 := n0_; have BK181 := n1_; have HB := n2_; clear n0_ n1_ n2_; (try clear hb); (try clear hb2); (try clear hk); (try clear hi); have hcz23_0 : w22.cell? ⟨gb180, 0, none⟩ = some (.int .i64 a0_0) := (blk_cell BK180.out 0).trans rfl; have hcz23_1 : w22.cell? ⟨gb180, 1, none⟩ = some (.int .i64 a0_1) := (blk_cell BK180.out 1).trans rfl; have hcz23_2 : w22.cell? ⟨gb180, 2, none⟩ = some (.int .i64 a0_2) := (blk_cell BK180.out 2).trans rfl; have hcz23_3 : w22.cell? ⟨gb180, 3, none⟩ = some (.int .i64 a0_3) := (blk_cell BK180.out 3).trans rfl; have hcz23_4 : w22.cell? ⟨gb180, 4, none⟩ = some (.int .i64 a0_4) := (blk_cell BK180.out 4).trans rfl; have hcz23_5 : w22.cell? ⟨gb180, 5, none⟩ = some (.int .i64 a0_5) := (blk_cell BK180.out 5).trans rfl; have hcz23_6 : w22.cell? ⟨gb180, 6, none⟩ = some (.int .i64 a0_6) := (blk_cell BK180.out 6).trans rfl; have hcz23_7 : w22.cell? ⟨gb180, 7, none⟩ = some (.int .i64 a0_7) := (blk_cell BK180.out 7).trans rfl; have hcz23_8 : w22.cell? ⟨gb180, 8, none⟩ = some (.int .i64 a0_8) := (blk_cell BK180.out 8).trans rfl; have hcz23_9 : w22.cell? ⟨gb180, 9, none⟩ = some (.string a0_9) := (blk_cell BK180.out 9).trans rfl; have hcz23_10 : w22.cell? ⟨gb180, 10, none⟩ = some (.slice A0_10 l0_10.length c0_10) := (blk_cell BK180.out 10).trans rfl; have hfz23_0 := blk_frozen BK180.out 0; have hfz23_1 := blk_frozen BK180.out 1; have hfz23_2 := blk_frozen BK180.out 2; have hfz23_3 := blk_frozen BK180.out 3; have hfz23_4 := blk_frozen BK180.out 4; have hfz23_5 := blk_frozen BK180.out 5; have hfz23_6 := blk_frozen BK180.out 6; have hfz23_7 := blk_frozen BK180.out 7; have hfz23_8 := blk_frozen BK180.out 8; have hfz23_9 := blk_frozen BK180.out 9; have hfz23_10 := blk_frozen BK180.out 10; have hcz24_0 : w22.cell? ⟨gb181, 0, none⟩ = some (.int .i64 a1_0) := (blk_cell BK181.out 0).trans rfl; have hcz24_1 : w22.cell? ⟨gb181, 1, none⟩ = some (.int .i64 a1_1) := (blk_cell BK181.out 1).trans rfl; have hcz24_2 : w22.cell? ⟨gb181, 2, none⟩ = some (.int .i64 a1_2) := (blk_cell BK181.out 2).trans rfl; have hcz24_3 : w22.cell? ⟨gb181, 3, none⟩ = some (.int .i64 a1_3) := (blk_cell BK181.out 3).trans rfl; have hcz24_4 : w22.cell? ⟨gb181, 4, none⟩ = some (.int .i64 a1_4) := (blk_cell BK181.out 4).trans rfl; have hcz24_5 : w22.cell? ⟨gb181, 5, none⟩ = some (.int .i64 a1_5) := (blk_cell BK181.out 5).trans rfl; have hcz24_6 : w22.cell? ⟨gb181, 6, none⟩ = some (.int .i64 a1_6) := (blk_cell BK181.out 6).trans rfl; have hcz24_7 : w22.cell? ⟨gb181, 7, none⟩ = some (.int .i64 a1_7) := (blk_cell BK181.out 7).trans rfl; have hcz24_8 : w22.cell? ⟨gb181, 8, none⟩ = some (.int .i64 a1_8) := (blk_cell BK181.out 8).trans rfl; have hcz24_9 : w22.cell? ⟨gb181, 9, none⟩ = some (.string a1_9) := (blk_cell BK181.out 9).trans rfl; have hcz24_10 : w22.cell? ⟨gb181, 10, none⟩ = some (.slice A1_10 l1_10.length c1_10) := (blk_cell BK181.out 10).trans rfl; have hfz24_0 := blk_frozen BK181.out 0; have hfz24_1 := blk_frozen BK181.out 1; have hfz24_2 := blk_frozen BK181.out 2; have hfz24_3 := blk_frozen BK181.out 3; have hfz24_4 := blk_frozen BK181.out 4; have hfz24_5 := blk_frozen BK181.out 5; have hfz24_6 := blk_frozen BK181.out 6; have hfz24_7 := blk_frozen BK181.out 7; have hfz24_8 := blk_frozen BK181.out 8; have hfz24_9 := blk_frozen BK181.out 9; have hfz24_10 := blk_frozen BK181.out 10))
      go_ret
      exact ⟨by first | rfl | (simp [errW_none, errW_some] <;> rfl) | (simp [*, errW_none, errW_some] <;> rfl), by repeat (first | (with_reducible first | exact HB.out | apply below_alloc | apply pw_below_drewN | apply below_drew1 | refine below_set ?_ GE180.out | refine below_set ?_ GE181.out) | exact HB.out)⟩
    ·rw [if_neg c7] at H
     have c7b0 : (a0_2 == a1_2) = false := beq_eq_false_iff_ne.mpr c7
     have c7b1 : (a0_2 != a1_2) = true := bne_iff_ne.mpr c7
     obtain rfl := Option.some.inj H
     go_enter Try.func14, Try.ntmps14
     go_wp2_with (first | ((with_reducible refine gate_dst (N := 2) rfl ?_); refine box_event ?hg (N := 2) ?hd (cs := #[.int .i64 a0_0, .int .i64 a0_1, .int .i64 a0_2, .int .i64 a0_3, .int .i64 a0_4, .int .i64 a0_5, .int .i64 a0_6, .int .i64 a0_7, .int .i64 a0_8, .string a0_9, .slice A0_10 l0_10.length c0_10]) (t := 37) ?hr ?_; (case hd => rfl); (case hg => rfl); (case hr => first | (go_simp; done) | (go_simp; rfl)); intro gb180 hg w25 hbox hb; have n0_ := Aside0.mk (below_step (by repeat (first | (with_reducible first | exact HB.out | apply below_alloc | apply pw_below_drewN | apply below_drew1) | exact HB.out)) hb); have n1_ := Aside0.mk (hbox); have n2_ := Aside0.mk ((by rw [hg]; exact (below_size (by repeat (first | (with_reducible first | exact HB.out | apply below_alloc | apply pw_below_drewN | apply below_drew1) | exact HB.out))) : w.heap.size ≤ gb180)); have n3_ := Aside0.mk ((by rw [hg]; exact (below_size (by repeat (first | (with_reducible first | exact HB.out | apply below_alloc | apply pw_below_drewN | apply below_drew1) | exact HB.out))) : w.heap.size ≤ gb180)); clear HB; have HB := n0_; have BK180 := n1_; have GW180 := n2_; have GE180 := n3_; clear n0_ n1_ n2_ n3_; clear hb hbox hg) | ((with_reducible refine gate_dst (N := 3) rfl ?_); refine box_event ?hg (N := 3) ?hd (cs := #[.int .i64 a1_0, .int .i64 a1_1, .int .i64 a1_2, .int .i64 a1_3, .int .i64 a1_4, .int .i64 a1_5, .int .i64 a1_6, .int .i64 a1_7, .int .i64 a1_8, .string a1_9, .slice A1_10 l1_10.length c1_10]) (t := 37) ?hr ?_; (case hd => rfl); (case hg => rfl); (case hr => first | (go_simp; done) | (go_simp; rfl)); intro gb181 hg w26 hbox hb; have n0_ := Aside0.mk (blk_below (g := gb180) (o := .cells #[.int .i64 a0_0, .int .i64 a0_1, .int .i64 a0_2, .int .i64 a0_3, .int .i64 a0_4, .int .i64 a0_5, .int .i64 a0_6, .int .i64 a0_7, .int .i64 a0_8, .string a0_9, .slice A0_10 l0_10.length c0_10] 37 (0, 0)) (by (with_reducible repeat (first | refine blk_drewN ?_ _ | refine blk_drew ?_ | refine blk_alloc ?_ _)); exact BK180.out) hb); have n1_ := Aside0.mk (below_step (by repeat (first | (with_reducible first | exact HB.out | apply below_alloc | apply pw_below_drewN | apply below_drew1 | refine below_set ?_ GE180.out) | exact HB.out)) hb); have n2_ := Aside0.mk (hbox); have n3_ := Aside0.mk ((by rw [hg]; exact (below_size (by repeat (first | (with_reducible first | exact HB.out | apply below_alloc | apply pw_below_drewN | apply below_drew1 | refine below_set ?_ GE180.out) | exact HB.out))) : w.heap.size ≤ gb181)); have n4_ := Aside0.mk ((by rw [hg]; exact (below_size (by repeat (first | (with_reducible first | exact HB.out | apply below_alloc | apply pw_below_drewN | apply below_drew1 | refine below_set ?_ GE180.out) | exact HB.out))) : w.heap.size ≤ gb181)); have n5_ := Aside0.mk ((by rw [hg]; exact Nat.ne_of_lt (blk_lt (g := gb180) (o := .cells #[.int .i64 a0_0, .int .i64 a0_1, .int .i64 a0_2, .int .i64 a0_3, .int .i64 a0_4, .int .i64 a0_5, .int .i64 a0_6, .int .i64 a0_7, .int .i64 a0_8, .string a0_9, .slice A0_10 l0_10.length c0_10] 37 (0, 0)) (by (with_reducible repeat (first | refine blk_drewN ?_ _ | refine blk_drew ?_ | refine blk_alloc ?_ _)); exact BK180.out)) : gb180 ≠ gb181)); have n6_ := Aside0.mk ((by rw [hg]; exact Nat.ne_of_gt (blk_lt (g := gb180) (o := .cells #[.int .i64 a0_0, .int .i64 a0_1, .int .i64 a0_2, .int .i64 a0_3, .int .i64 a0_4, .int .i64 a0_5, .int .i64 a0_6, .int .i64 a0_7, .int .i64 a0_8, .string a0_9, .slice A0_10 l0_10.length c0_10] 37 (0, 0)) (by (with_reducible repeat (first | refine blk_drewN ?_ _ | refine blk_drew ?_ | refine blk_alloc ?_ _)); exact BK180.out)) : gb181 ≠ gb180)); clear BK180; clear HB; have BK180 := n0_; have HB := n1_; have BK181 := n2_; have GW181 := n3_; have GE181 := n4_; have NB180_181 := n5_; have NB181_180 := n6_; clear n0_ n1_ n2_ n3_ n4_ n5_ n6_; clear hb hbox hg; have hnb27 := NB180_181.out; have hnc27 := NB181_180.out; have hcz28_0 : w26.cell? ⟨gb180, 0, none⟩ = some (.int .i64 a0_0) := (blk_cell BK180.out 0).trans rfl; have hcz28_1 : w26.cell? ⟨gb180, 1, none⟩ = some (.int .i64 a0_1) := (blk_cell BK180.out 1).trans rfl; have hcz28_2 : w26.cell? ⟨gb180, 2, none⟩ = some (.int .i64 a0_2) := (blk_cell BK180.out 2).trans rfl; have hcz28_3 : w26.cell? ⟨gb180, 3, none⟩ = some (.int .i64 a0_3) := (blk_cell BK180.out 3).trans rfl; have hcz28_4 : w26.cell? ⟨gb180, 4, none⟩ = some (.int .i64 a0_4) := (blk_cell BK180.out 4).trans rfl; have hcz28_5 : w26.cell? ⟨gb180, 5, none⟩ = some (.int .i64 a0_5) := (blk_cell BK180.out 5).trans rfl; have hcz28_6 : w26.cell? ⟨gb180, 6, none⟩ = some (.int .i64 a0_6) := (blk_cell BK180.out 6).trans rfl; have hcz28_7 : w26.cell? ⟨gb180, 7, none⟩ = some (.int .i64 a0_7) := (blk_cell BK180.out 7).trans rfl; have hcz28_8 : w26.cell? ⟨gb180, 8, none⟩ = some (.int .i64 a0_8) := (blk_cell BK180.out 8).trans rfl; have hcz28_9 : w26.cell? ⟨gb180, 9, none⟩ = some (.string a0_9) := (blk_cell BK180.out 9).trans rfl; have hcz28_10 : w26.cell? ⟨gb180, 10, none⟩ = some (.slice A0_10 l0_10.length c0_10) := (blk_cell BK180.out 10).trans rfl; have hfz28_0 := blk_frozen BK180.out 0; have hfz28_1 := blk_frozen BK180.out 1; have hfz28_2 := blk_frozen BK180.out 2; have hfz28_3 := blk_frozen BK180.out 3; have hfz28_4 := blk_frozen BK180.out 4; have hfz28_5 := blk_frozen BK180.out 5; have hfz28_6 := blk_frozen BK180.out 6; have hfz28_7 := blk_frozen BK180.out 7; have hfz28_8 := blk_frozen BK180.out 8; have hfz28_9 := blk_frozen BK180.out 9; have hfz28_10 := blk_frozen BK180.out 10; have hcz29_0 : w26.cell? ⟨gb181, 0, none⟩ = some (.int .i64 a1_0) := (blk_cell BK181.out 0).trans rfl; have hcz29_1 : w26.cell? ⟨gb181, 1, none⟩ = some (.int .i64 a1_1) := (blk_cell BK181.out 1).trans rfl; have hcz29_2 : w26.cell? ⟨gb181, 2, none⟩ = some (.int .i64 a1_2) := (blk_cell BK181.out 2).trans rfl; have hcz29_3 : w26.cell? ⟨gb181, 3, none⟩ = some (.int .i64 a1_3) := (blk_cell BK181.out 3).trans rfl; have hcz29_4 : w26.cell? ⟨gb181, 4, none⟩ = some (.int .i64 a1_4) := (blk_cell BK181.out 4).trans rfl; have hcz29_5 : w26.cell? ⟨gb181, 5, none⟩ = some (.int .i64 a1_5) := (blk_cell BK181.out 5).trans rfl; have hcz29_6 : w26.cell? ⟨gb181, 6, none⟩ = some (.int .i64 a1_6) := (blk_cell BK181.out 6).trans rfl; have hcz29_7 : w26.cell? ⟨gb181, 7, none⟩ = some (.int .i64 a1_7) := (blk_cell BK181.out 7).trans rfl; have hcz29_8 : w26.cell? ⟨gb181, 8, none⟩ = some (.int .i64 a1_8) := (blk_cell BK181.out 8).trans rfl; have hcz29_9 : w26.cell? ⟨gb181, 9, none⟩ = some (.string a1_9) := (blk_cell BK181.out 9).trans rfl; have hcz29_10 : w26.cell? ⟨gb181, 10, none⟩ = some (.slice A1_10 l1_10.length c1_10) := (blk_cell BK181.out 10).trans rfl; have hfz29_0 := blk_frozen BK181.out 0; have hfz29_1 := blk_frozen BK181.out 1; have hfz29_2 := blk_frozen BK181.out 2; have hfz29_3 := blk_frozen BK181.out 3; have hfz29_4 := blk_frozen BK181.out 4; have hfz29_5 := blk_frozen BK181.out 5; have hfz29_6 := blk_frozen BK181.out 6; have hfz29_7 := blk_frozen BK181.out 7; have hfz29_8 := blk_frozen BK181.out 8; have hfz29_9 := blk_frozen BK181.out 9; have hfz29_10 := blk_frozen BK181.out 10) | ((with_reducible refine gate_callee (f := 30) rfl ?_); refine goesL_ (some 10) rfl rfl Try.func30 (by kernel_rfl) rfl #[.agg #[.int .i64 a0_5, .int .i64 a0_6, .int .i64 a0_7, .int .i64 a0_8, .string a0_9, .slice A0_10 l0_10.length c0_10], .agg #[.int .i64 a1_5, .int .i64 a1_6, .int .i64 a1_7, .int .i64 a1_8, .string a1_9, .slice A1_10 l1_10.length c1_10]] rfl (by (try simp only [List.map_toArray, List.map_cons, List.map_nil]); first | done | rfl | (simp only [List.length_drop, List.length_take]; rfl)) ?_; (with_reducible refine (copyholdref11_Same.calls k a0_5 a0_6 a0_7 a0_8 a0_9 _ _ l0_10 a1_5 a1_6 a1_7 a1_8 a1_9 _ _ l1_10 true _ ?side1 ?side2 ?side3 ?side4 A3.out).mono ?_); (case side1 => repeat (first | exact (Kd.C_below HR0_10.out HB.out) | (with_reducible refine Kd.C_alloc ?_ _) | (with_reducible refine Kd.C_drewN ?_ _) | (with_reducible refine Kd.C_drew ?_))); (case side2 => exact HC0_10.out); (case side3 => repeat (first | exact (Kd.C_below HR1_10.out HB.out) | (with_reducible refine Kd.C_alloc ?_ _) | (with_reducible refine Kd.C_drewN ?_ _) | (with_reducible refine Kd.C_drew ?_))); (case side4 => exact HC1_10.out); rintro e w30 ⟨rfl, hb⟩; refine ⟨_, rfl, ?_⟩; have n0_ := Aside0.mk (blk_below (g := gb180) (o := .cells #[.int .i64 a0_0, .int .i64 a0_1, .int .i64 a0_2, .int .i64 a0_3, .int .i64 a0_4, .int .i64 a0_5, .int .i64 a0_6, .int .i64 a0_7, .int .i64 a0_8, .string a0_9, .slice A0_10 l0_10.length c0_10] 37 (0, 0)) (by (with_reducible repeat (first | refine blk_drewN ?_ _ | refine blk_drew ?_ | refine blk_alloc ?_ _)); exact BK180.out) hb); have n1_ := Aside0.mk (blk_below (g := gb181) (o := .cells #[.int .i64 a1_0, .int .i64 a1_1, .int .i64 a1_2, .int .i64 a1_3, .int .i64 a1_4, .int .i64 a1_5, .int .i64 a1_6, .int .i64 a1_7, .int .i64 a1_8, .string a1_9, .slice A1_10 l1_10.length c1_10] 37 (0, 0)) (by (with_reducible repeat (first | refine blk_drewN ?_ _ | refine blk_drew ?_ | refine blk_alloc ?_ _)); exact BK181.out) hb); have n2_ := Aside0.mk (below_step (by repeat (first | (with_reducible first | exact HB.out | apply below_alloc | apply pw_below_drewN | apply below_drew1 | refine below_set ?_ GE180.out | refine below_set ?_ GE181.out) | exact HB.out)) hb); clear BK180; clear BK181; clear HB; have BK180 := n0_; have BK181 := n1_; have HB := n2_; clear n0_ n1_ n2_; (try clear hb); (try clear hb2); (try clear hk); (try clear hi); have hcz31_0 : w30.cell? ⟨gb180, 0, none⟩ = some (.int .i64 a0_0) := (blk_cell BK180.out 0).trans rfl; have hcz31_1 : w30.cell? ⟨gb180, 1, none⟩ = some (.int .i64 a0_1) := (blk_cell BK180.out 1).trans rfl; have hcz31_2 : w30.cell? ⟨gb180, 2, none⟩ = some (.int .i64 a0_2) := (blk_cell BK180.out 2).trans rfl; have hcz31_3 : w30.cell? ⟨gb180, 3, none⟩ = some (.int .i64 a0_3) := (blk_cell BK180.out 3).trans rfl; have hcz31_4 : w30.cell? ⟨gb180, 4, none⟩ = some (.int .i64 a0_4) := (blk_cell BK180.out 4).trans rfl; have hcz31_5 : w30.cell? ⟨gb180, 5, none⟩ = some (.int .i64 a0_5) := (blk_cell BK180.out 5).trans rfl; have hcz31_6 : w30.cell? ⟨gb180, 6, none⟩ = some (.int .i64 a0_6) := (blk_cell BK180.out 6).trans rfl; have hcz31_7 : w30.cell? ⟨gb180, 7, none⟩ = some (.int .i64 a0_7) := (blk_cell BK180.out 7).trans rfl; have hcz31_8 : w30.cell? ⟨gb180, 8, none⟩ = some (.int .i64 a0_8) := (blk_cell BK180.out 8).trans rfl; have hcz31_9 : w30.cell? ⟨gb180, 9, none⟩ = some (.string a0_9) := (blk_cell BK180.out 9).trans rfl; have hcz31_10 : w30.cell? ⟨gb180, 10, none⟩ = some (.slice A0_10 l0_10.length c0_10) := (blk_cell BK180.out 10).trans rfl; have hfz31_0 := blk_frozen BK180.out 0; have hfz31_1 := blk_frozen BK180.out 1; have hfz31_2 := blk_frozen BK180.out 2; have hfz31_3 := blk_frozen BK180.out 3; have hfz31_4 := blk_frozen BK180.out 4; have hfz31_5 := blk_frozen BK180.out 5; have hfz31_6 := blk_frozen BK180.out 6; have hfz31_7 := blk_frozen BK180.out 7; have hfz31_8 := blk_frozen BK180.out 8; have hfz31_9 := blk_frozen BK180.out 9; have hfz31_10 := blk_frozen BK180.out 10; have hcz32_0 : w30.cell? ⟨gb181, 0, none⟩ = some (.int .i64 a1_0) := (blk_cell BK181.out 0).trans rfl; have hcz32_1 : w30.cell? ⟨gb181, 1, none⟩ = some (.int .i64 a1_1) := (blk_cell BK181.out 1).trans rfl; have hcz32_2 : w30.cell? ⟨gb181, 2, none⟩ = some (.int .i64 a1_2) := (blk_cell BK181.out 2).trans rfl; have hcz32_3 : w30.cell? ⟨gb181, 3, none⟩ = some (.int .i64 a1_3) := (blk_cell BK181.out 3).trans rfl; have hcz32_4 : w30.cell? ⟨gb181, 4, none⟩ = some (.int .i64 a1_4) := (blk_cell BK181.out 4).trans rfl; have hcz32_5 : w30.cell? ⟨gb181, 5, none⟩ = some (.int .i64 a1_5) := (blk_cell BK181.out 5).trans rfl; have hcz32_6 : w30.cell? ⟨gb181, 6, none⟩ = some (.int .i64 a1_6) := (blk_cell BK181.out 6).trans rfl; have hcz32_7 : w30.cell? ⟨gb181, 7, none⟩ = some (.int .i64 a1_7) := (blk_cell BK181.out 7).trans rfl; have hcz32_8 : w30.cell? ⟨gb181, 8, none⟩ = some (.int .i64 a1_8) := (blk_cell BK181.out 8).trans rfl; have hcz32_9 : w30.cell? ⟨gb181, 9, none⟩ = some (.string a1_9) := (blk_cell BK181.out 9).trans rfl; have hcz32_10 : w30.cell? ⟨gb181, 10, none⟩ = some (.slice A1_10 l1_10.length c1_10) := (blk_cell BK181.out 10).trans rfl; have hfz32_0 := blk_frozen BK181.out 0; have hfz32_1 := blk_frozen BK181.out 1; have hfz32_2 := blk_frozen BK181.out 2; have hfz32_3 := blk_frozen BK181.out 3; have hfz32_4 := blk_frozen BK181.out 4; have hfz32_5 := blk_frozen BK181.out 5; have hfz32_6 := blk_frozen BK181.out 6; have hfz32_7 := blk_frozen BK181.out 7; have hfz32_8 := blk_frozen BK181.out 8; have hfz32_9 := blk_frozen BK181.out 9; have hfz32_10 := blk_frozen BK181.out 10))
     go_ret
     exact ⟨by first | rfl | (simp [errW_none, errW_some] <;> rfl) | (simp [*, errW_none, errW_some] <;> rfl), by repeat (first | (with_reducible first | exact HB.out | apply below_alloc | apply pw_below_drewN | apply below_drew1 | refine below_set ?_ GE180.out | refine below_set ?_ GE181.out) | exact HB.out)⟩
   ·rw [if_neg c6] at H
    have c6b0 : (a0_1 == a1_1) = false := beq_eq_false_iff_ne.mpr c6
    have c6b1 : (a0_1 != a1_1) = true := bne_iff_ne.mpr c6
    obtain rfl := Option.some.inj H
    go_enter Try.func14, Try.ntmps14
    go_wp2_with (first | ((with_reducible refine gate_dst (N := 2) rfl ?_); refine box_event ?hg (N := 2) ?hd (cs := #[.int .i64 a0_0, .int .i64 a0_1, .int .i64 a0_2, .int .i64 a0_3, .int .i64 a0_4, .int .i64 a0_5, .int .i64 a0_6, .int .i64 a0_7, .int .i64 a0_8, .string a0_9, .slice A0_10 l0_10.length c0_10]) (t := 37) ?hr ?_; (case hd => rfl); (case hg => rfl); (case hr => first | (go_simp; done) | (go_simp; rfl)); intro gb180 hg w33 hbox hb; have n0_ := Aside0.mk (below_step (by repeat (first | (with_reducible first | exact HB.out | apply below_alloc | apply pw_below_drewN | apply below_drew1) | exact HB.out)) hb); have n1_ := Aside0.mk (hbox); have n2_ := Aside0.mk ((by rw [hg]; exact (below_size (by repeat (first | (with_reducible first | exact HB.out | apply below_alloc | apply pw_below_drewN | apply below_drew1) | exact HB.out))) : w.heap.size ≤ gb180)); have n3_ := Aside0.mk ((by rw [hg]; exact (below_size (by repeat (first | (with_reducible first | exact HB.out | apply below_alloc | apply pw_below_drewN | apply below_drew1) | exact HB.out))) : w.heap.size ≤ gb180)); clear HB; have HB := n0_; have BK180 := n1_; have GW180 := n2_; have GE180 := n3_; clear n0_ n1_ n2_ n3_; clear hb hbox hg) | ((with_reducible refine gate_dst (N := 3) rfl ?_); refine box_event ?hg (N := 3) ?hd (cs := #[.int .i64 a1_0, .int .i64 a1_1, .int .i64 a1_2, .int .i64 a1_3, .int .i64 a1_4, .int .i64 a1_5, .int .i64 a1_6, .int .i64 a1_7, .int .i64 a1_8, .string a1_9, .slice A1_10 l1_10.length c1_10]) (t := 37) ?hr ?_; (case hd => rfl); (case hg => rfl); (case hr => first | (go_simp; done) | (go_simp; rfl)); intro gb181 hg w34 hbox hb; have n0_ := Aside0.mk (blk_below (g := gb180) (o := .cells #[.int .i64 a0_0, .int .i64 a0_1, .int .i64 a0_2, .int .i64 a0_3, .int .i64 a0_4, .int .i64 a0_5, .int .i64 a0_6, .int .i64 a0_7, .int .i64 a0_8, .string a0_9, .slice A0_10 l0_10.length c0_10] 37 (0, 0)) (by (with_reducible repeat (first | refine blk_drewN ?_ _ | refine blk_drew ?_ | refine blk_alloc ?_ _)); exact BK180.out) hb); have n1_ := Aside0.mk (below_step (by repeat (first | (with_reducible first | exact HB.out | apply below_alloc | apply pw_below_drewN | apply below_drew1 | refine below_set ?_ GE180.out) | exact HB.out)) hb); have n2_ := Aside0.mk (hbox); have n3_ := Aside0.mk ((by rw [hg]; exact (below_size (by repeat (first | (with_reducible first | exact HB.out | apply below_alloc | apply pw_below_drewN | apply below_drew1 | refine below_set ?_ GE180.out) | exact HB.out))) : w.heap.size ≤ gb181)); have n4_ := Aside0.mk ((by rw [hg]; exact (below_size (by repeat (first | (with_reducible first | exact HB.out | apply below_alloc | apply pw_below_drewN | apply below_drew1 | refine below_set ?_ GE180.out) | exact HB.out))) : w.heap.size ≤ gb181)); have n5_ := Aside0.mk ((by rw [hg]; exact Nat.ne_of_lt (blk_lt (g := gb180) (o := .cells #[.int .i64 a0_0, .int .i64 a0_1, .int .i64 a0_2, .int .i64 a0_3, .int .i64 a0_4, .int .i64 a0_5, .int .i64 a0_6, .int .i64 a0_7, .int .i64 a0_8, .string a0_9, .slice A0_10 l0_10.length c0_10] 37 (0, 0)) (by (with_reducible repeat (first | refine blk_drewN ?_ _ | refine blk_drew ?_ | refine blk_alloc ?_ _)); exact BK180.out)) : gb180 ≠ gb181)); have n6_ := Aside0.mk ((by rw [hg]; exact Nat.ne_of_gt (blk_lt (g := gb180) (o := .cells #[.int .i64 a0_0, .int .i64 a0_1, .int .i64 a0_2, .int .i64 a0_3, .int .i64 a0_4, .int .i64 a0_5, .int .i64 a0_6, .int .i64 a0_7, .int .i64 a0_8, .string a0_9, .slice A0_10 l0_10.length c0_10] 37 (0, 0)) (by (with_reducible repeat (first | refine blk_drewN ?_ _ | refine blk_drew ?_ | refine blk_alloc ?_ _)); exact BK180.out)) : gb181 ≠ gb180)); clear BK180; clear HB; have BK180 := n0_; have HB := n1_; have BK181 := n2_; have GW181 := n3_; have GE181 := n4_; have NB180_181 := n5_; have NB181_180 := n6_; clear n0_ n1_ n2_ n3_ n4_ n5_ n6_; clear hb hbox hg; have hnb35 := NB180_181.out; have hnc35 := NB181_180.out; have hcz36_0 : w34.cell? ⟨gb180, 0, none⟩ = some (.int .i64 a0_0) := (blk_cell BK180.out 0).trans rfl; have hcz36_1 : w34.cell? ⟨gb180, 1, none⟩ = some (.int .i64 a0_1) := (blk_cell BK180.out 1).trans rfl; have hcz36_2 : w34.cell? ⟨gb180, 2, none⟩ = some (.int .i64 a0_2) := (blk_cell BK180.out 2).trans rfl; have hcz36_3 : w34.cell? ⟨gb180, 3, none⟩ = some (.int .i64 a0_3) := (blk_cell BK180.out 3).trans rfl; have hcz36_4 : w34.cell? ⟨gb180, 4, none⟩ = some (.int .i64 a0_4) := (blk_cell BK180.out 4).trans rfl; have hcz36_5 : w34.cell? ⟨gb180, 5, none⟩ = some (.int .i64 a0_5) := (blk_cell BK180.out 5).trans rfl; have hcz36_6 : w34.cell? ⟨gb180, 6, none⟩ = some (.int .i64 a0_6) := (blk_cell BK180.out 6).trans rfl; have hcz36_7 : w34.cell? ⟨gb180, 7, none⟩ = some (.int .i64 a0_7) := (blk_cell BK180.out 7).trans rfl; have hcz36_8 : w34.cell? ⟨gb180, 8, none⟩ = some (.int .i64 a0_8) := (blk_cell BK180.out 8).trans rfl; have hcz36_9 : w34.cell? ⟨gb180, 9, none⟩ = some (.string a0_9) := (blk_cell BK180.out 9).trans rfl; have hcz36_10 : w34.cell? ⟨gb180, 10, none⟩ = some (.slice A0_10 l0_10.length c0_10) := (blk_cell BK180.out 10).trans rfl; have hfz36_0 := blk_frozen BK180.out 0; have hfz36_1 := blk_frozen BK180.out 1; have hfz36_2 := blk_frozen BK180.out 2; have hfz36_3 := blk_frozen BK180.out 3; have hfz36_4 := blk_frozen BK180.out 4; have hfz36_5 := blk_frozen BK180.out 5; have hfz36_6 := blk_frozen BK180.out 6; have hfz36_7 := blk_frozen BK180.out 7; have hfz36_8 := blk_frozen BK180.out 8; have hfz36_9 := blk_frozen BK180.out 9; have hfz36_10 := blk_frozen BK180.out 10; have hcz37_0 : w34.cell? ⟨gb181, 0, none⟩ = some (.int .i64 a1_0) := (blk_cell BK181.out 0).trans rfl; have hcz37_1 : w34.cell? ⟨gb181, 1, none⟩ = some (.int .i64 a1_1) := (blk_cell BK181.out 1).trans rfl; have hcz37_2 : w34.cell? ⟨gb181, 2, none⟩ = some (.int .i64 a1_2) := (blk_cell BK181.out 2).trans rfl; have hcz37_3 : w34.cell? ⟨gb181, 3, none⟩ = some (.int .i64 a1_3) := (blk_cell BK181.out 3).trans rfl; have hcz37_4 : w34.cell? ⟨gb181, 4, none⟩ = some (.int .i64 a1_4) := (blk_cell BK181.out 4).trans rfl; have hcz37_5 : w34.cell? ⟨gb181, 5, none⟩ = some (.int .i64 a1_5) := (blk_cell BK181.out 5).trans rfl; have hcz37_6 : w34.cell? ⟨gb181, 6, none⟩ = some (.int .i64 a1_6) := (blk_cell BK181.out 6).trans rfl; have hcz37_7 : w34.cell? ⟨gb181, 7, none⟩ = some (.int .i64 a1_7) := (blk_cell BK181.out 7).trans rfl; have hcz37_8 : w34.cell? ⟨gb181, 8, none⟩ = some (.int .i64 a1_8) := (blk_cell BK181.out 8).trans rfl; have hcz37_9 : w34.cell? ⟨gb181, 9, none⟩ = some (.string a1_9) := (blk_cell BK181.out 9).trans rfl; have hcz37_10 : w34.cell? ⟨gb181, 10, none⟩ = some (.slice A1_10 l1_10.length c1_10) := (blk_cell BK181.out 10).trans rfl; have hfz37_0 := blk_frozen BK181.out 0; have hfz37_1 := blk_frozen BK181.out 1; have hfz37_2 := blk_frozen BK181.out 2; have hfz37_3 := blk_frozen BK181.out 3; have hfz37_4 := blk_frozen BK181.out 4; have hfz37_5 := blk_frozen BK181.out 5; have hfz37_6 := blk_frozen BK181.out 6; have hfz37_7 := blk_frozen BK181.out 7; have hfz37_8 := blk_frozen BK181.out 8; have hfz37_9 := blk_frozen BK181.out 9; have hfz37_10 := blk_frozen BK181.out 10) | ((with_reducible refine gate_callee (f := 30) rfl ?_); refine goesL_ (some 10) rfl rfl Try.func30 (by kernel_rfl) rfl #[.agg #[.int .i64 a0_5, .int .i64 a0_6, .int .i64 a0_7, .int .i64 a0_8, .string a0_9, .slice A0_10 l0_10.length c0_10], .agg #[.int .i64 a1_5, .int .i64 a1_6, .int .i64 a1_7, .int .i64 a1_8, .string a1_9, .slice A1_10 l1_10.length c1_10]] rfl (by (try simp only [List.map_toArray, List.map_cons, List.map_nil]); first | done | rfl | (simp only [List.length_drop, List.length_take]; rfl)) ?_; (with_reducible refine (copyholdref11_Same.calls k a0_5 a0_6 a0_7 a0_8 a0_9 _ _ l0_10 a1_5 a1_6 a1_7 a1_8 a1_9 _ _ l1_10 true _ ?side1 ?side2 ?side3 ?side4 A3.out).mono ?_); (case side1 => repeat (first | exact (Kd.C_below HR0_10.out HB.out) | (with_reducible refine Kd.C_alloc ?_ _) | (with_reducible refine Kd.C_drewN ?_ _) | (with_reducible refine Kd.C_drew ?_))); (case side2 => exact HC0_10.out); (case side3 => repeat (first | exact (Kd.C_below HR1_10.out HB.out) | (with_reducible refine Kd.C_alloc ?_ _) | (with_reducible refine Kd.C_drewN ?_ _) | (with_reducible refine Kd.C_drew ?_))); (case side4 => exact HC1_10.out); rintro e w38 ⟨rfl, hb⟩; refine ⟨_, rfl, ?_⟩; have n0_ := Aside0.mk (blk_below (g := gb180) (o := .cells #[.int .i64 a0_0, .int .i64 a0_1, .int .i64 a0_2, .int .i64 a0_3, .int .i64 a0_4, .int .i64 a0_5, .int .i64 a0_6, .int .i64 a0_7, .int .i64 a0_8, .string a0_9, .slice A0_10 l0_10.length c0_10] 37 (0, 0)) (by (with_reducible repeat (first | refine blk_drewN ?_ _ | refine blk_drew ?_ | refine blk_alloc ?_ _)); exact BK180.out) hb); have n1_ := Aside0.mk (blk_below (g := gb181) (o := .cells #[.int .i64 a1_0, .int .i64 a1_1, .int .i64 a1_2, .int .i64 a1_3, .int .i64 a1_4, .int .i64 a1_5, .int .i64 a1_6, .int .i64 a1_7, .int .i64 a1_8, .string a1_9, .slice A1_10 l1_10.length c1_10] 37 (0, 0)) (by (with_reducible repeat (first | refine blk_drewN ?_ _ | refine blk_drew ?_ | refine blk_alloc ?_ _)); exact BK181.out) hb); have n2_ := Aside0.mk (below_step (by repeat (first | (with_reducible first | exact HB.out | apply below_alloc | apply pw_below_drewN | apply below_drew1 | refine below_set ?_ GE180.out | refine below_set ?_ GE181.out) | exact HB.out)) hb); clear BK180; clear BK181; clear HB; have BK180 := n0_; have BK181 := n1_; have HB := n2_; clear n0_ n1_ n2_; (try clear hb); (try clear hb2); (try clear hk); (try clear hi); have hcz39_0 : w38.cell? ⟨gb180, 0, none⟩ = some (.int .i64 a0_0) := (blk_cell BK180.out 0).trans rfl; have hcz39_1 : w38.cell? ⟨gb180, 1, none⟩ = some (.int .i64 a0_1) := (blk_cell BK180.out 1).trans rfl; have hcz39_2 : w38.cell? ⟨gb180, 2, none⟩ = some (.int .i64 a0_2) := (blk_cell BK180.out 2).trans rfl; have hcz39_3 : w38.cell? ⟨gb180, 3, none⟩ = some (.int .i64 a0_3) := (blk_cell BK180.out 3).trans rfl; have hcz39_4 : w38.cell? ⟨gb180, 4, none⟩ = some (.int .i64 a0_4) := (blk_cell BK180.out 4).trans rfl; have hcz39_5 : w38.cell? ⟨gb180, 5, none⟩ = some (.int .i64 a0_5) := (blk_cell BK180.out 5).trans rfl; have hcz39_6 : w38.cell? ⟨gb180, 6, none⟩ = some (.int .i64 a0_6) := (blk_cell BK180.out 6).trans rfl; have hcz39_7 : w38.cell? ⟨gb180, 7, none⟩ = some (.int .i64 a0_7) := (blk_cell BK180.out 7).trans rfl; have hcz39_8 : w38.cell? ⟨gb180, 8, none⟩ = some (.int .i64 a0_8) := (blk_cell BK180.out 8).trans rfl; have hcz39_9 : w38.cell? ⟨gb180, 9, none⟩ = some (.string a0_9) := (blk_cell BK180.out 9).trans rfl; have hcz39_10 : w38.cell? ⟨gb180, 10, none⟩ = some (.slice A0_10 l0_10.length c0_10) := (blk_cell BK180.out 10).trans rfl; have hfz39_0 := blk_frozen BK180.out 0; have hfz39_1 := blk_frozen BK180.out 1; have hfz39_2 := blk_frozen BK180.out 2; have hfz39_3 := blk_frozen BK180.out 3; have hfz39_4 := blk_frozen BK180.out 4; have hfz39_5 := blk_frozen BK180.out 5; have hfz39_6 := blk_frozen BK180.out 6; have hfz39_7 := blk_frozen BK180.out 7; have hfz39_8 := blk_frozen BK180.out 8; have hfz39_9 := blk_frozen BK180.out 9; have hfz39_10 := blk_frozen BK180.out 10; have hcz40_0 : w38.cell? ⟨gb181, 0, none⟩ = some (.int .i64 a1_0) := (blk_cell BK181.out 0).trans rfl; have hcz40_1 : w38.cell? ⟨gb181, 1, none⟩ = some (.int .i64 a1_1) := (blk_cell BK181.out 1).trans rfl; have hcz40_2 : w38.cell? ⟨gb181, 2, none⟩ = some (.int .i64 a1_2) := (blk_cell BK181.out 2).trans rfl; have hcz40_3 : w38.cell? ⟨gb181, 3, none⟩ = some (.int .i64 a1_3) := (blk_cell BK181.out 3).trans rfl; have hcz40_4 : w38.cell? ⟨gb181, 4, none⟩ = some (.int .i64 a1_4) := (blk_cell BK181.out 4).trans rfl; have hcz40_5 : w38.cell? ⟨gb181, 5, none⟩ = some (.int .i64 a1_5) := (blk_cell BK181.out 5).trans rfl; have hcz40_6 : w38.cell? ⟨gb181, 6, none⟩ = some (.int .i64 a1_6) := (blk_cell BK181.out 6).trans rfl; have hcz40_7 : w38.cell? ⟨gb181, 7, none⟩ = some (.int .i64 a1_7) := (blk_cell BK181.out 7).trans rfl; have hcz40_8 : w38.cell? ⟨gb181, 8, none⟩ = some (.int .i64 a1_8) := (blk_cell BK181.out 8).trans rfl; have hcz40_9 : w38.cell? ⟨gb181, 9, none⟩ = some (.string a1_9) := (blk_cell BK181.out 9).trans rfl; have hcz40_10 : w38.cell? ⟨gb181, 10, none⟩ = some (.slice A1_10 l1_10.length c1_10) := (blk_cell BK181.out 10).trans rfl; have hfz40_0 := blk_frozen BK181.out 0; have hfz40_1 := blk_frozen BK181.out 1; have hfz40_2 := blk_frozen BK181.out 2; have hfz40_3 := blk_frozen BK181.out 3; have hfz40_4 := blk_frozen BK181.out 4; have hfz40_5 := blk_frozen BK181.out 5; have hfz40_6 := blk_frozen BK181.out 6; have hfz40_7 := blk_frozen BK181.out 7; have hfz40_8 := blk_frozen BK181.out 8; have hfz40_9 := blk_frozen BK181.out 9; have hfz40_10 := blk_frozen BK181.out 10))
    go_ret
    exact ⟨by first | rfl | (simp [errW_none, errW_some] <;> rfl) | (simp [*, errW_none, errW_some] <;> rfl), by repeat (first | (with_reducible first | exact HB.out | apply below_alloc | apply pw_below_drewN | apply below_drew1 | refine below_set ?_ GE180.out | refine below_set ?_ GE181.out) | exact HB.out)⟩
  ·rw [if_neg c5] at H
   have c5b0 : (a0_0 == a1_0) = false := beq_eq_false_iff_ne.mpr c5
   have c5b1 : (a0_0 != a1_0) = true := bne_iff_ne.mpr c5
   obtain rfl := Option.some.inj H
   go_enter Try.func14, Try.ntmps14
   go_wp2_with (first | ((with_reducible refine gate_dst (N := 2) rfl ?_); refine box_event ?hg (N := 2) ?hd (cs := #[.int .i64 a0_0, .int .i64 a0_1, .int .i64 a0_2, .int .i64 a0_3, .int .i64 a0_4, .int .i64 a0_5, .int .i64 a0_6, .int .i64 a0_7, .int .i64 a0_8, .string a0_9, .slice A0_10 l0_10.length c0_10]) (t := 37) ?hr ?_; (case hd => rfl); (case hg => rfl); (case hr => first | (go_simp; done) | (go_simp; rfl)); intro gb180 hg w41 hbox hb; have n0_ := Aside0.mk (below_step (by repeat (first | (with_reducible first | exact HB.out | apply below_alloc | apply pw_below_drewN | apply below_drew1) | exact HB.out)) hb); have n1_ := Aside0.mk (hbox); have n2_ := Aside0.mk ((by rw [hg]; exact (below_size (by repeat (first | (with_reducible first | exact HB.out | apply below_alloc | apply pw_below_drewN | apply below_drew1) | exact HB.out))) : w.heap.size ≤ gb180)); have n3_ := Aside0.mk ((by rw [hg]; exact (below_size (by repeat (first | (with_reducible first | exact HB.out | apply below_alloc | apply pw_below_drewN | apply below_drew1) | exact HB.out))) : w.heap.size ≤ gb180)); clear HB; have HB := n0_; have BK180 := n1_; have GW180 := n2_; have GE180 := n3_; clear n0_ n1_ n2_ n3_; clear hb hbox hg) | ((with_reducible refine gate_dst (N := 3) rfl ?_); refine box_event ?hg (N := 3) ?hd (cs := #[.int .i64 a1_0, .int .i64 a1_1, .int .i64 a1_2, .int .i64 a1_3, .int .i64 a1_4, .int .i64 a1_5, .int .i64 a1_6, .int .i64 a1_7, .int .i64 a1_8, .string a1_9, .slice A1_10 l1_10.length c1_10]) (t := 37) ?hr ?_; (case hd => rfl); (case hg => rfl); (case hr => first | (go_simp; done) | (go_simp; rfl)); intro gb181 hg w42 hbox hb; have n0_ := Aside0.mk (blk_below (g := gb180) (o := .cells #[.int .i64 a0_0, .int .i64 a0_1, .int .i64 a0_2, .int .i64 a0_3, .int .i64 a0_4, .int .i64 a0_5, .int .i64 a0_6, .int .i64 a0_7, .int .i64 a0_8, .string a0_9, .slice A0_10 l0_10.length c0_10] 37 (0, 0)) (by (with_reducible repeat (first | refine blk_drewN ?_ _ | refine blk_drew ?_ | refine blk_alloc ?_ _)); exact BK180.out) hb); have n1_ := Aside0.mk (below_step (by repeat (first | (with_reducible first | exact HB.out | apply below_alloc | apply pw_below_drewN | apply below_drew1 | refine below_set ?_ GE180.out) | exact HB.out)) hb); have n2_ := Aside0.mk (hbox); have n3_ := Aside0.mk ((by rw [hg]; exact (below_size (by repeat (first | (with_reducible first | exact HB.out | apply below_alloc | apply pw_below_drewN | apply below_drew1 | refine below_set ?_ GE180.out) | exact HB.out))) : w.heap.size ≤ gb181)); have n4_ := Aside0.mk ((by rw [hg]; exact (below_size (by repeat (first | (with_reducible first | exact HB.out | apply below_alloc | apply pw_below_drewN | apply below_drew1 | refine below_set ?_ GE180.out) | exact HB.out))) : w.heap.size ≤ gb181)); have n5_ := Aside0.mk ((by rw [hg]; exact Nat.ne_of_lt (blk_lt (g := gb180) (o := .cells #[.int .i64 a0_0, .int .i64 a0_1, .int .i64 a0_2, .int .i64 a0_3, .int .i64 a0_4, .int .i64 a0_5, .int .i64 a0_6, .int .i64 a0_7, .int .i64 a0_8, .string a0_9, .slice A0_10 l0_10.length c0_10] 37 (0, 0)) (by (with_reducible repeat (first | refine blk_drewN ?_ _ | refine blk_drew ?_ | refine blk_alloc ?_ _)); exact BK180.out)) : gb180 ≠ gb181)); have n6_ := Aside0.mk ((by rw [hg]; exact Nat.ne_of_gt (blk_lt (g := gb180) (o := .cells #[.int .i64 a0_0, .int .i64 a0_1, .int .i64 a0_2, .int .i64 a0_3, .int .i64 a0_4, .int .i64 a0_5, .int .i64 a0_6, .int .i64 a0_7, .int .i64 a0_8, .string a0_9, .slice A0_10 l0_10.length c0_10] 37 (0, 0)) (by (with_reducible repeat (first | refine blk_drewN ?_ _ | refine blk_drew ?_ | refine blk_alloc ?_ _)); exact BK180.out)) : gb181 ≠ gb180)); clear BK180; clear HB; have BK180 := n0_; have HB := n1_; have BK181 := n2_; have GW181 := n3_; have GE181 := n4_; have NB180_181 := n5_; have NB181_180 := n6_; clear n0_ n1_ n2_ n3_ n4_ n5_ n6_; clear hb hbox hg; have hnb43 := NB180_181.out; have hnc43 := NB181_180.out; have hcz44_0 : w42.cell? ⟨gb180, 0, none⟩ = some (.int .i64 a0_0) := (blk_cell BK180.out 0).trans rfl; have hcz44_1 : w42.cell? ⟨gb180, 1, none⟩ = some (.int .i64 a0_1) := (blk_cell BK180.out 1).trans rfl; have hcz44_2 : w42.cell? ⟨gb180, 2, none⟩ = some (.int .i64 a0_2) := (blk_cell BK180.out 2).trans rfl; have hcz44_3 : w42.cell? ⟨gb180, 3, none⟩ = some (.int .i64 a0_3) := (blk_cell BK180.out 3).trans rfl; have hcz44_4 : w42.cell? ⟨gb180, 4, none⟩ = some (.int .i64 a0_4) := (blk_cell BK180.out 4).trans rfl; have hcz44_5 : w42.cell? ⟨gb180, 5, none⟩ = some (.int .i64 a0_5) := (blk_cell BK180.out 5).trans rfl; have hcz44_6 : w42.cell? ⟨gb180, 6, none⟩ = some (.int .i64 a0_6) := (blk_cell BK180.out 6).trans rfl; have hcz44_7 : w42.cell? ⟨gb180, 7, none⟩ = some (.int .i64 a0_7) := (blk_cell BK180.out 7).trans rfl; have hcz44_8 : w42.cell? ⟨gb180, 8, none⟩ = some (.int .i64 a0_8) := (blk_cell BK180.out 8).trans rfl; have hcz44_9 : w42.cell? ⟨gb180, 9, none⟩ = some (.string a0_9) := (blk_cell BK180.out 9).trans rfl; have hcz44_10 : w42.cell? ⟨gb180, 10, none⟩ = some (.slice A0_10 l0_10.length c0_10) := (blk_cell BK180.out 10).trans rfl; have hfz44_0 := blk_frozen BK180.out 0; have hfz44_1 := blk_frozen BK180.out 1; have hfz44_2 := blk_frozen BK180.out 2; have hfz44_3 := blk_frozen BK180.out 3; have hfz44_4 := blk_frozen BK180.out 4; have hfz44_5 := blk_frozen BK180.out 5; have hfz44_6 := blk_frozen BK180.out 6; have hfz44_7 := blk_frozen BK180.out 7; have hfz44_8 := blk_frozen BK180.out 8; have hfz44_9 := blk_frozen BK180.out 9; have hfz44_10 := blk_frozen BK180.out 10; have hcz45_0 : w42.cell? ⟨gb181, 0, none⟩ = some (.int .i64 a1_0) := (blk_cell BK181.out 0).trans rfl; have hcz45_1 : w42.cell? ⟨gb181, 1, none⟩ = some (.int .i64 a1_1) := (blk_cell BK181.out 1).trans rfl; have hcz45_2 : w42.cell? ⟨gb181, 2, none⟩ = some (.int .i64 a1_2) := (blk_cell BK181.out 2).trans rfl; have hcz45_3 : w42.cell? ⟨gb181, 3, none⟩ = some (.int .i64 a1_3) := (blk_cell BK181.out 3).trans rfl; have hcz45_4 : w42.cell? ⟨gb181, 4, none⟩ = some (.int .i64 a1_4) := (blk_cell BK181.out 4).trans rfl; have hcz45_5 : w42.cell? ⟨gb181, 5, none⟩ = some (.int .i64 a1_5) := (blk_cell BK181.out 5).trans rfl; have hcz45_6 : w42.cell? ⟨gb181, 6, none⟩ = some (.int .i64 a1_6) := (blk_cell BK181.out 6).trans rfl; have hcz45_7 : w42.cell? ⟨gb181, 7, none⟩ = some (.int .i64 a1_7) := (blk_cell BK181.out 7).trans rfl; have hcz45_8 : w42.cell? ⟨gb181, 8, none⟩ = some (.int .i64 a1_8) := (blk_cell BK181.out 8).trans rfl; have hcz45_9 : w42.cell? ⟨gb181, 9, none⟩ = some (.string a1_9) := (blk_cell BK181.out 9).trans rfl; have hcz45_10 : w42.cell? ⟨gb181, 10, none⟩ = some (.slice A1_10 l1_10.length c1_10) := (blk_cell BK181.out 10).trans rfl; have hfz45_0 := blk_frozen BK181.out 0; have hfz45_1 := blk_frozen BK181.out 1; have hfz45_2 := blk_frozen BK181.out 2; have hfz45_3 := blk_frozen BK181.out 3; have hfz45_4 := blk_frozen BK181.out 4; have hfz45_5 := blk_frozen BK181.out 5; have hfz45_6 := blk_frozen BK181.out 6; have hfz45_7 := blk_frozen BK181.out 7; have hfz45_8 := blk_frozen BK181.out 8; have hfz45_9 := blk_frozen BK181.out 9; have hfz45_10 := blk_frozen BK181.out 10) | ((with_reducible refine gate_callee (f := 30) rfl ?_); refine goesL_ (some 10) rfl rfl Try.func30 (by kernel_rfl) rfl #[.agg #[.int .i64 a0_5, .int .i64 a0_6, .int .i64 a0_7, .int .i64 a0_8, .string a0_9, .slice A0_10 l0_10.length c0_10], .agg #[.int .i64 a1_5, .int .i64 a1_6, .int .i64 a1_7, .int .i64 a1_8, .string a1_9, .slice A1_10 l1_10.length c1_10]] rfl (by (try simp only [List.map_toArray, List.map_cons, List.map_nil]); first | done | rfl | (simp only [List.length_drop, List.length_take]; rfl)) ?_; (with_reducible refine (copyholdref11_Same.calls k a0_5 a0_6 a0_7 a0_8 a0_9 _ _ l0_10 a1_5 a1_6 a1_7 a1_8 a1_9 _ _ l1_10 true _ ?side1 ?side2 ?side3 ?side4 A3.out).mono ?_); (case side1 => repeat (first | exact (Kd.C_below HR0_10.out HB.out) | (with_reducible refine Kd.C_alloc ?_ _) | (with_reducible refine Kd.C_drewN ?_ _) | (with_reducible refine Kd.C_drew ?_))); (case side2 => exact HC0_10.out); (case side3 => repeat (first | exact (Kd.C_below HR1_10.out HB.out) | (with_reducible refine Kd.C_alloc ?_ _) | (with_reducible refine Kd.C_drewN ?_ _) | (with_reducible refine Kd.C_drew ?_))); (case side4 => exact HC1_10.out); rintro e w46 ⟨rfl, hb⟩; refine ⟨_, rfl, ?_⟩; have n0_ := Aside0.mk (blk_below (g := gb180) (o := .cells #[.int .i64 a0_0, .int .i64 a0_1, .int .i64 a0_2, .int .i64 a0_3, .int .i64 a0_4, .int .i64 a0_5, .int .i64 a0_6, .int .i64 a0_7, .int .i64 a0_8, .string a0_9, .slice A0_10 l0_10.length c0_10] 37 (0, 0)) (by (with_reducible repeat (first | refine blk_drewN ?_ _ | refine blk_drew ?_ | refine blk_alloc ?_ _)); exact BK180.out) hb); have n1_ := Aside0.mk (blk_below (g := gb181) (o := .cells #[.int .i64 a1_0, .int .i64 a1_1, .int .i64 a1_2, .int .i64 a1_3, .int .i64 a1_4, .int .i64 a1_5, .int .i64 a1_6, .int .i64 a1_7, .int .i64 a1_8, .string a1_9, .slice A1_10 l1_10.length c1_10] 37 (0, 0)) (by (with_reducible repeat (first | refine blk_drewN ?_ _ | refine blk_drew ?_ | refine blk_alloc ?_ _)); exact BK181.out) hb); have n2_ := Aside0.mk (below_step (by repeat (first | (with_reducible first | exact HB.out | apply below_alloc | apply pw_below_drewN | apply below_drew1 | refine below_set ?_ GE180.out | refine below_set ?_ GE181.out) | exact HB.out)) hb); clear BK180; clear BK181; clear HB; have BK180 := n0_; have BK181 := n1_; have HB := n2_; clear n0_ n1_ n2_; (try clear hb); (try clear hb2); (try clear hk); (try clear hi); have hcz47_0 : w46.cell? ⟨gb180, 0, none⟩ = some (.int .i64 a0_0) := (blk_cell BK180.out 0).trans rfl; have hcz47_1 : w46.cell? ⟨gb180, 1, none⟩ = some (.int .i64 a0_1) := (blk_cell BK180.out 1).trans rfl; have hcz47_2 : w46.cell? ⟨gb180, 2, none⟩ = some (.int .i64 a0_2) := (blk_cell BK180.out 2).trans rfl; have hcz47_3 : w46.cell? ⟨gb180, 3, none⟩ = some (.int .i64 a0_3) := (blk_cell BK180.out 3).trans rfl; have hcz47_4 : w46.cell? ⟨gb180, 4, none⟩ = some (.int .i64 a0_4) := (blk_cell BK180.out 4).trans rfl; have hcz47_5 : w46.cell? ⟨gb180, 5, none⟩ = some (.int .i64 a0_5) := (blk_cell BK180.out 5).trans rfl; have hcz47_6 : w46.cell? ⟨gb180, 6, none⟩ = some (.int .i64 a0_6) := (blk_cell BK180.out 6).trans rfl; have hcz47_7 : w46.cell? ⟨gb180, 7, none⟩ = some (.int .i64 a0_7) := (blk_cell BK180.out 7).trans rfl; have hcz47_8 : w46.cell? ⟨gb180, 8, none⟩ = some (.int .i64 a0_8) := (blk_cell BK180.out 8).trans rfl; have hcz47_9 : w46.cell? ⟨gb180, 9, none⟩ = some (.string a0_9) := (blk_cell BK180.out 9).trans rfl; have hcz47_10 : w46.cell? ⟨gb180, 10, none⟩ = some (.slice A0_10 l0_10.length c0_10) := (blk_cell BK180.out 10).trans rfl; have hfz47_0 := blk_frozen BK180.out 0; have hfz47_1 := blk_frozen BK180.out 1; have hfz47_2 := blk_frozen BK180.out 2; have hfz47_3 := blk_frozen BK180.out 3; have hfz47_4 := blk_frozen BK180.out 4; have hfz47_5 := blk_frozen BK180.out 5; have hfz47_6 := blk_frozen BK180.out 6; have hfz47_7 := blk_frozen BK180.out 7; have hfz47_8 := blk_frozen BK180.out 8; have hfz47_9 := blk_frozen BK180.out 9; have hfz47_10 := blk_frozen BK180.out 10; have hcz48_0 : w46.cell? ⟨gb181, 0, none⟩ = some (.int .i64 a1_0) := (blk_cell BK181.out 0).trans rfl; have hcz48_1 : w46.cell? ⟨gb181, 1, none⟩ = some (.int .i64 a1_1) := (blk_cell BK181.out 1).trans rfl; have hcz48_2 : w46.cell? ⟨gb181, 2, none⟩ = some (.int .i64 a1_2) := (blk_cell BK181.out 2).trans rfl; have hcz48_3 : w46.cell? ⟨gb181, 3, none⟩ = some (.int .i64 a1_3) := (blk_cell BK181.out 3).trans rfl; have hcz48_4 : w46.cell? ⟨gb181, 4, none⟩ = some (.int .i64 a1_4) := (blk_cell BK181.out 4).trans rfl; have hcz48_5 : w46.cell? ⟨gb181, 5, none⟩ = some (.int .i64 a1_5) := (blk_cell BK181.out 5).trans rfl; have hcz48_6 : w46.cell? ⟨gb181, 6, none⟩ = some (.int .i64 a1_6) := (blk_cell BK181.out 6).trans rfl; have hcz48_7 : w46.cell? ⟨gb181, 7, none⟩ = some (.int .i64 a1_7) := (blk_cell BK181.out 7).trans rfl; have hcz48_8 : w46.cell? ⟨gb181, 8, none⟩ = some (.int .i64 a1_8) := (blk_cell BK181.out 8).trans rfl; have hcz48_9 : w46.cell? ⟨gb181, 9, none⟩ = some (.string a1_9) := (blk_cell BK181.out 9).trans rfl; have hcz48_10 : w46.cell? ⟨gb181, 10, none⟩ = some (.slice A1_10 l1_10.length c1_10) := (blk_cell BK181.out 10).trans rfl; have hfz48_0 := blk_frozen BK181.out 0; have hfz48_1 := blk_frozen BK181.out 1; have hfz48_2 := blk_frozen BK181.out 2; have hfz48_3 := blk_frozen BK181.out 3; have hfz48_4 := blk_frozen BK181.out 4; have hfz48_5 := blk_frozen BK181.out 5; have hfz48_6 := blk_frozen BK181.out 6; have hfz48_7 := blk_frozen BK181.out 7; have hfz48_8 := blk_frozen BK181.out 8; have hfz48_9 := blk_frozen BK181.out 9; have hfz48_10 := blk_frozen BK181.out 10))
   go_ret
   exact ⟨by first | rfl | (simp [errW_none, errW_some] <;> rfl) | (simp [*, errW_none, errW_some] <;> rfl), by repeat (first | (with_reducible first | exact HB.out | apply below_alloc | apply pw_below_drewN | apply below_drew1 | refine below_set ?_ GE180.out | refine below_set ?_ GE181.out) | exact HB.out)⟩
 ·replace c4 := Bool.eq_false_iff.mpr c4
  subst c4
  have H1 : (some false) = some r := by rw [if_neg (show ¬ (false = true) by decide)] at H; exact H
  clear H
  have H := H1
  clear H1
  obtain rfl := Option.some.inj H
  go_enter Try.func14, Try.ntmps14
  go_wp2_with (first | ((with_reducible refine gate_dst (N := 2) rfl ?_); refine box_event ?hg (N := 2) ?hd (cs := #[.int .i64 a0_0, .int .i64 a0_1, .int .i64 a0_2, .int .i64 a0_3, .int .i64 a0_4, .int .i64 a0_5, .int .i64 a0_6, .int .i64 a0_7, .int .i64 a0_8, .string a0_9, .slice A0_10 l0_10.length c0_10]) (t := 37) ?hr ?_; (case hd => rfl); (case hg => rfl); (case hr => first | (go_simp; done) | (go_simp; rfl)); intro gb180 hg w49 hbox hb; have n0_ := Aside0.mk (below_step (by repeat (first | (with_reducible first | exact HB.out | apply below_alloc | apply pw_below_drewN | apply below_drew1) | exact HB.out)) hb); have n1_ := Aside0.mk (hbox); have n2_ := Aside0.mk ((by rw [hg]; exact (below_size (by repeat (first | (with_reducible first | exact HB.out | apply below_alloc | apply pw_below_drewN | apply below_drew1) | exact HB.out))) : w.heap.size ≤ gb180)); have n3_ := Aside0.mk ((by rw [hg]; exact (below_size (by repeat (first | (with_reducible first | exact HB.out | apply below_alloc | apply pw_below_drewN | apply below_drew1) | exact HB.out))) : w.heap.size ≤ gb180)); clear HB; have HB := n0_; have BK180 := n1_; have GW180 := n2_; have GE180 := n3_; clear n0_ n1_ n2_ n3_; clear hb hbox hg) | ((with_reducible refine gate_dst (N := 3) rfl ?_); refine box_event ?hg (N := 3) ?hd (cs := #[.int .i64 a1_0, .int .i64 a1_1, .int .i64 a1_2, .int .i64 a1_3, .int .i64 a1_4, .int .i64 a1_5, .int .i64 a1_6, .int .i64 a1_7, .int .i64 a1_8, .string a1_9, .slice A1_10 l1_10.length c1_10]) (t := 37) ?hr ?_; (case hd => rfl); (case hg => rfl); (case hr => first | (go_simp; done) | (go_simp; rfl)); intro gb181 hg w50 hbox hb; have n0_ := Aside0.mk (blk_below (g := gb180) (o := .cells #[.int .i64 a0_0, .int .i64 a0_1, .int .i64 a0_2, .int .i64 a0_3, .int .i64 a0_4, .int .i64 a0_5, .int .i64 a0_6, .int .i64 a0_7, .int .i64 a0_8, .string a0_9, .slice A0_10 l0_10.length c0_10] 37 (0, 0)) (by (with_reducible repeat (first | refine blk_drewN ?_ _ | refine blk_drew ?_ | refine blk_alloc ?_ _)); exact BK180.out) hb); have n1_ := Aside0.mk (below_step (by repeat (first | (with_reducible first | exact HB.out | apply below_alloc | apply pw_below_drewN | apply below_drew1 | refine below_set ?_ GE180.out) | exact HB.out)) hb); have n2_ := Aside0.mk (hbox); have n3_ := Aside0.mk ((by rw [hg]; exact (below_size (by repeat (first | (with_reducible first | exact HB.out | apply below_alloc | apply pw_below_drewN | apply below_drew1 | refine below_set ?_ GE180.out) | exact HB.out))) : w.heap.size ≤ gb181)); have n4_ := Aside0.mk ((by rw [hg]; exact (below_size (by repeat (first | (with_reducible first | exact HB.out | apply below_alloc | apply pw_below_drewN | apply below_drew1 | refine below_set ?_ GE180.out) | exact HB.out))) : w.heap.size ≤ gb181)); have n5_ := Aside0.mk ((by rw [hg]; exact Nat.ne_of_lt (blk_lt (g := gb180) (o := .cells #[.int .i64 a0_0, .int .i64 a0_1, .int .i64 a0_2, .int .i64 a0_3, .int .i64 a0_4, .int .i64 a0_5, .int .i64 a0_6, .int .i64 a0_7, .int .i64 a0_8, .string a0_9, .slice A0_10 l0_10.length c0_10] 37 (0, 0)) (by (with_reducible repeat (first | refine blk_drewN ?_ _ | refine blk_drew ?_ | refine blk_alloc ?_ _)); exact BK180.out)) : gb180 ≠ gb181)); have n6_ := Aside0.mk ((by rw [hg]; exact Nat.ne_of_gt (blk_lt (g := gb180) (o := .cells #[.int .i64 a0_0, .int .i64 a0_1, .int .i64 a0_2, .int .i64 a0_3, .int .i64 a0_4, .int .i64 a0_5, .int .i64 a0_6, .int .i64 a0_7, .int .i64 a0_8, .string a0_9, .slice A0_10 l0_10.length c0_10] 37 (0, 0)) (by (with_reducible repeat (first | refine blk_drewN ?_ _ | refine blk_drew ?_ | refine blk_alloc ?_ _)); exact BK180.out)) : gb181 ≠ gb180)); clear BK180; clear HB; have BK180 := n0_; have HB := n1_; have BK181 := n2_; have GW181 := n3_; have GE181 := n4_; have NB180_181 := n5_; have NB181_180 := n6_; clear n0_ n1_ n2_ n3_ n4_ n5_ n6_; clear hb hbox hg; have hnb51 := NB180_181.out; have hnc51 := NB181_180.out; have hcz52_0 : w50.cell? ⟨gb180, 0, none⟩ = some (.int .i64 a0_0) := (blk_cell BK180.out 0).trans rfl; have hcz52_1 : w50.cell? ⟨gb180, 1, none⟩ = some (.int .i64 a0_1) := (blk_cell BK180.out 1).trans rfl; have hcz52_2 : w50.cell? ⟨gb180, 2, none⟩ = some (.int .i64 a0_2) := (blk_cell BK180.out 2).trans rfl; have hcz52_3 : w50.cell? ⟨gb180, 3, none⟩ = some (.int .i64 a0_3) := (blk_cell BK180.out 3).trans rfl; have hcz52_4 : w50.cell? ⟨gb180, 4, none⟩ = some (.int .i64 a0_4) := (blk_cell BK180.out 4).trans rfl; have hcz52_5 : w50.cell? ⟨gb180, 5, none⟩ = some (.int .i64 a0_5) := (blk_cell BK180.out 5).trans rfl; have hcz52_6 : w50.cell? ⟨gb180, 6, none⟩ = some (.int .i64 a0_6) := (blk_cell BK180.out 6).trans rfl; have hcz52_7 : w50.cell? ⟨gb180, 7, none⟩ = some (.int .i64 a0_7) := (blk_cell BK180.out 7).trans rfl; have hcz52_8 : w50.cell? ⟨gb180, 8, none⟩ = some (.int .i64 a0_8) := (blk_cell BK180.out 8).trans rfl; have hcz52_9 : w50.cell? ⟨gb180, 9, none⟩ = some (.string a0_9) := (blk_cell BK180.out 9).trans rfl; have hcz52_10 : w50.cell? ⟨gb180, 10, none⟩ = some (.slice A0_10 l0_10.length c0_10) := (blk_cell BK180.out 10).trans rfl; have hfz52_0 := blk_frozen BK180.out 0; have hfz52_1 := blk_frozen BK180.out 1; have hfz52_2 := blk_frozen BK180.out 2; have hfz52_3 := blk_frozen BK180.out 3; have hfz52_4 := blk_frozen BK180.out 4; have hfz52_5 := blk_frozen BK180.out 5; have hfz52_6 := blk_frozen BK180.out 6; have hfz52_7 := blk_frozen BK180.out 7; have hfz52_8 := blk_frozen BK180.out 8; have hfz52_9 := blk_frozen BK180.out 9; have hfz52_10 := blk_frozen BK180.out 10; have hcz53_0 : w50.cell? ⟨gb181, 0, none⟩ = some (.int .i64 a1_0) := (blk_cell BK181.out 0).trans rfl; have hcz53_1 : w50.cell? ⟨gb181, 1, none⟩ = some (.int .i64 a1_1) := (blk_cell BK181.out 1).trans rfl; have hcz53_2 : w50.cell? ⟨gb181, 2, none⟩ = some (.int .i64 a1_2) := (blk_cell BK181.out 2).trans rfl; have hcz53_3 : w50.cell? ⟨gb181, 3, none⟩ = some (.int .i64 a1_3) := (blk_cell BK181.out 3).trans rfl; have hcz53_4 : w50.cell? ⟨gb181, 4, none⟩ = some (.int .i64 a1_4) := (blk_cell BK181.out 4).trans rfl; have hcz53_5 : w50.cell? ⟨gb181, 5, none⟩ = some (.int .i64 a1_5) := (blk_cell BK181.out 5).trans rfl; have hcz53_6 : w50.cell? ⟨gb181, 6, none⟩ = some (.int .i64 a1_6) := (blk_cell BK181.out 6).trans rfl; have hcz53_7 : w50.cell? ⟨gb181, 7, none⟩ = some (.int .i64 a1_7) := (blk_cell BK181.out 7).trans rfl; have hcz53_8 : w50.cell? ⟨gb181, 8, none⟩ = some (.int .i64 a1_8) := (blk_cell BK181.out 8).trans rfl; have hcz53_9 : w50.cell? ⟨gb181, 9, none⟩ = some (.string a1_9) := (blk_cell BK181.out 9).trans rfl; have hcz53_10 : w50.cell? ⟨gb181, 10, none⟩ = some (.slice A1_10 l1_10.length c1_10) := (blk_cell BK181.out 10).trans rfl; have hfz53_0 := blk_frozen BK181.out 0; have hfz53_1 := blk_frozen BK181.out 1; have hfz53_2 := blk_frozen BK181.out 2; have hfz53_3 := blk_frozen BK181.out 3; have hfz53_4 := blk_frozen BK181.out 4; have hfz53_5 := blk_frozen BK181.out 5; have hfz53_6 := blk_frozen BK181.out 6; have hfz53_7 := blk_frozen BK181.out 7; have hfz53_8 := blk_frozen BK181.out 8; have hfz53_9 := blk_frozen BK181.out 9; have hfz53_10 := blk_frozen BK181.out 10) | ((with_reducible refine gate_callee (f := 30) rfl ?_); refine goesL_ (some 10) rfl rfl Try.func30 (by kernel_rfl) rfl #[.agg #[.int .i64 a0_5, .int .i64 a0_6, .int .i64 a0_7, .int .i64 a0_8, .string a0_9, .slice A0_10 l0_10.length c0_10], .agg #[.int .i64 a1_5, .int .i64 a1_6, .int .i64 a1_7, .int .i64 a1_8, .string a1_9, .slice A1_10 l1_10.length c1_10]] rfl (by (try simp only [List.map_toArray, List.map_cons, List.map_nil]); first | done | rfl | (simp only [List.length_drop, List.length_take]; rfl)) ?_; (with_reducible refine (copyholdref11_Same.calls k a0_5 a0_6 a0_7 a0_8 a0_9 _ _ l0_10 a1_5 a1_6 a1_7 a1_8 a1_9 _ _ l1_10 false _ ?side1 ?side2 ?side3 ?side4 A3.out).mono ?_); (case side1 => repeat (first | exact (Kd.C_below HR0_10.out HB.out) | (with_reducible refine Kd.C_alloc ?_ _) | (with_reducible refine Kd.C_drewN ?_ _) | (with_reducible refine Kd.C_drew ?_))); (case side2 => exact HC0_10.out); (case side3 => repeat (first | exact (Kd.C_below HR1_10.out HB.out) | (with_reducible refine Kd.C_alloc ?_ _) | (with_reducible refine Kd.C_drewN ?_ _) | (with_reducible refine Kd.C_drew ?_))); (case side4 => exact HC1_10.out); rintro e w54 ⟨rfl, hb⟩; refine ⟨_, rfl, ?_⟩; have n0_ := Aside0.mk (blk_below (g := gb180) (o := .cells #[.int .i64 a0_0, .int .i64 a0_1, .int .i64 a0_2, .int .i64 a0_3, .int .i64 a0_4, .int .i64 a0_5, .int .i64 a0_6, .int .i64 a0_7, .int .i64 a0_8, .string a0_9, .slice A0_10 l0_10.length c0_10] 37 (0, 0)) (by (with_reducible repeat (first | refine blk_drewN ?_ _ | refine blk_drew ?_ | refine blk_alloc ?_ _)); exact BK180.out) hb); have n1_ := Aside0.mk (blk_below (g := gb181) (o := .cells #[.int .i64 a1_0, .int .i64 a1_1, .int .i64 a1_2, .int .i64 a1_3, .int .i64 a1_4, .int .i64 a1_5, .int .i64 a1_6, .int .i64 a1_7, .int .i64 a1_8, .string a1_9, .slice A1_10 l1_10.length c1_10] 37 (0, 0)) (by (with_reducible repeat (first | refine blk_drewN ?_ _ | refine blk_drew ?_ | refine blk_alloc ?_ _)); exact BK181.out) hb); have n2_ := Aside0.mk (below_step (by repeat (first | (with_reducible first | exact HB.out | apply below_alloc | apply pw_below_drewN | apply below_drew1 | refine below_set ?_ GE180.out | refine below_set ?_ GE181.out) | exact HB.out)) hb); clear BK180; clear BK181; clear HB; have BK180 := n0_; have BK181 := n1_; have HB := n2_; clear n0_ n1_ n2_; (try clear hb); (try clear hb2); (try clear hk); (try clear hi)))
  go_ret
  exact ⟨by first | rfl | (simp [errW_none, errW_some] <;> rfl) | (simp [*, errW_none, errW_some] <;> rfl), by repeat (first | (with_reducible first | exact HB.out | apply below_alloc | apply pw_below_drewN | apply below_drew1 | refine below_set ?_ GE180.out | refine below_set ?_ GE181.out) | exact HB.out)⟩

-- GIVEN: function 32 (octet_List): its Lean function and its contract stand in a text of this session's

/-! ### wire_Rsp: function 16 -/
-- NOT PRINTED: function 4 (copyholdlaw15_WireApart)

/-! ### copyholdref01_Long: function 17 -/
end Go.Proofs.Ytgnmhbkialgeaaa.Q
end

section
/- The machine's side of laws of this seat: Go functions as Lean functions, and the proof that a call of each comes to what its function says (written by a program of this session, px.py, that runs the kit's print). -/
namespace Go.Proofs.Ytgnmhbkialgeaaa.Q
open Go.RowKit Go.Proofs.YtgnmhbkialgeaaaW.PrintWords Go.Proofs.YtgnmhbkialgeaaaW.PrintLast Go.Proofs.YtgnmhbkialgeaaaW.PrintMore
attribute [local go_sem] max2_int min2_int max_two min_two max_three min_three max_four min_four   -- for this text's walks alone
attribute [local go_sem high] Go.Proofs.Ytgnmhbkialgeaaa.px_xor_u8 Go.Proofs.Ytgnmhbkialgeaaa.px_xor_u16 Go.Proofs.Ytgnmhbkialgeaaa.px_xor_u32 Go.Proofs.Ytgnmhbkialgeaaa.px_xor_u64
set_option linter.unusedVariables false
set_option linter.unusedSimpArgs false

/-! ### copyholdref01_Num: function 56 -/
def copyholdref01_Num.f : Nat → Int → Option (ByteArray)
 | 0, _ => none
 | k + 1, a0 => if a0 < 128 then (some (strOfNums (([(a0) % 256] : List Int)))) else ((some (([(IntKind.u64.wrap ((Int.tmod a0 128) + 128)) % 256] : List Int) : List Int)).bind fun y210 => ((copyholdref01_Num.f k (IntKind.u64.wrap (Int.tdiv a0 128))).bind fun t213 => (if (strOfNums y210).size + t213.size ≤ 9223372036854775807 then (some ((strOfNums y210) ++ t213)) else (none))))
theorem copyholdref01_Num.mono_l : ∀ k, (∀ y0, LeO (copyholdref01_Num.f k y0) (copyholdref01_Num.f (k + 1) y0))
 | 0 => fun _ r h => by simp [copyholdref01_Num.f] at h
 | k + 1 => by
  have ih0 := copyholdref01_Num.mono_l k
  ·intro y0
   unfold copyholdref01_Num.f
   repeat' first
   | (with_reducible exact ih0 _)
   | (with_reducible exact LeO.refl _)
   | (with_reducible exact LeO.none _)
   | (with_reducible refine LeO.ite ?_ ?_)
   | (with_reducible refine LeO.bind ?_ (fun _ => ?_))
   | exact ih0 _
   | exact LeO.none _
   | refine LeO.ite ?_ ?_
   | refine LeO.bind ?_ (fun _ => ?_)
theorem copyholdref01_Num.mono : ∀ a0 k, LeO (copyholdref01_Num.f k a0) (copyholdref01_Num.f (k + 1) a0) := by
 intro a0 k
 have ih0 := copyholdref01_Num.mono_l k
 exact ih0 a0
def copyholdref01_Num.T3 : Bool × List (List Nat × List Nat) := (true, [([], []), ([0], [0]), ([1], [1]), ([2], [2]), ([3], [3]), ([4], [4]), ([], []), ([6], [6]), ([7], [7]), ([5, 8], [5, 8]), ([9, 8, 0, 1, 2, 3, 4, 5, 6, 7, 8, 9], [9])])
def copyholdref01_Num.B3 : List Nat := [0, 1, 3, 7, 15, 31, 0, 64, 192, 511, 1023]
theorem copyholdref01_Num.tab3 : rtab .any (opsOf Try.f56 3) = copyholdref01_Num.T3 := by kernel_rfl
theorem copyholdref01_Num.bits3 : waitsOk copyholdref01_Num.T3.2 copyholdref01_Num.B3 = true := by kernel_rfl
set_option maxHeartbeats 8000000 in
set_option maxRecDepth 100000 in
theorem copyholdref01_Num.calls (k : Nat) : ∀ (a0 : Int) (r : ByteArray) (w : World) (h : copyholdref01_Num.f k a0 = some r),
  Calls Try.prog 56 #[.int .u64 a0] w fun e w' => e = .returned (.string r) ∧ Below w.heap.size w w' := by
 induction k using Nat.strongRecOn with
 | _ k ih =>
 intro a0 r w h
 cases k with
 | zero => exact absurd h (by simp [copyholdref01_Num.f])
 | succ k =>
 simp only [copyholdref01_Num.f] at h
 have HB := Aside0.mk (Below.refl w.heap.size w)
 have H : (if a0 < 128 then (some (strOfNums (([(a0) % 256] : List Int)))) else ((some (([(IntKind.u64.wrap ((Int.tmod a0 128) + 128)) % 256] : List Int) : List Int)).bind fun y210 => ((copyholdref01_Num.f k (IntKind.u64.wrap (Int.tdiv a0 128))).bind fun t213 => (if (strOfNums y210).size + t213.size ≤ 9223372036854775807 then (some ((strOfNums y210) ++ t213)) else (none))))) = some r := h
 clear h
 by_cases c2 : a0 < 128
 ·rw [if_pos c2] at H
  have c2b0 : decide (a0 < 128) = true := decide_eq_true c2
  clear c2
  obtain ⟨y207, hy207⟩ : ∃ y_ : List Int, y_ = (([(a0) % 256] : List Int)) := ⟨_, rfl⟩
  replace H : (some (strOfNums y207)) = some r := by first | (rw [hy207]; with_reducible exact H) | (have H2_ := (Option.bind_some _ _).symm.trans H; rw [hy207]; with_reducible exact H2_) | (have H2_ := (Option.bind_some _ _).symm.trans H; with_reducible exact H2_) | with_reducible exact H | (rw [hy207]; exact H) | exact H
  have Ny207 := Aside0.mk hy207
  clear hy207
  obtain rfl := Option.some.inj H
  go_enter Try.func56, Try.ntmps56
  go_wp2_with (first | ((with_reducible refine gate_dst (N := 7) rfl ?_); refine Kd.R_lit (Kd.int .u8) _ 5 ?hg (N := 7) ?hd (xs := ([(a0) % 256] : List Int)) (inner := [.int .u8 ((a0) % 256)]) (ok := fun _ => True) (okp := fun _ => True) ?hr ?hp (fun _ hk => hk) trivial (Below.refl _ _) (Nat.le_refl _) (by simp) ?_; (case hd => rfl); (case hg => rfl); (case hr => first | (go_simp; done) | (go_simp; rfl)); (case hp => exact (Reps.one (show Kd.M (Kd.int .u8) _ _ _ ((a0) % 256) [.int .u8 ((a0) % 256)] from rfl) (Reps.none _ _))); intro v208 w3 ho4 hb hg_ hnew_; clear hg_ hnew_; (first | rw [← Ny207.out] at ho4 | (simp only [Int.reduceToNat] at ho4; rw [← Ny207.out] at ho4)); have n0_ := Aside0.mk (Kd.R_lower ho4 (below_size (by repeat (first | (with_reducible first | exact HB.out | apply below_alloc | apply pw_below_drewN | apply below_drew1) | exact HB.out)))); have n1_ := Aside0.mk (below_step (by repeat (first | (with_reducible first | exact HB.out | apply below_alloc | apply pw_below_drewN | apply below_drew1) | exact HB.out)) hb); clear HB; have HO209 := n0_; have HB := n1_; clear n0_ n1_; clear hb ho4; have hcv5 := own_string (P := Try.prog) Try.underlying59 Try.underlying5 Try.underlying9 (Kd.own_of_R HO209.out)))
  go_ret
  exact ⟨by first | rfl | (simp [errW_none, errW_some] <;> rfl) | (simp [*, errW_none, errW_some] <;> rfl), by repeat (first | (with_reducible first | exact HB.out | apply below_alloc | apply pw_below_drewN | apply below_drew1) | exact HB.out)⟩
 ·rw [if_neg c2] at H
  have c2b0 : decide (a0 < 128) = false := decide_eq_false c2
  clear c2
  obtain ⟨y210, hy210⟩ : ∃ y_ : List Int, y_ = (([(IntKind.u64.wrap ((Int.tmod a0 128) + 128)) % 256] : List Int)) := ⟨_, rfl⟩
  replace H : ((copyholdref01_Num.f k (IntKind.u64.wrap (Int.tdiv a0 128))).bind fun t213 => (if (strOfNums y210).size + t213.size ≤ 9223372036854775807 then (some ((strOfNums y210) ++ t213)) else (none))) = some r := by first | (rw [hy210]; with_reducible exact H) | (have H2_ := (Option.bind_some _ _).symm.trans H; rw [hy210]; with_reducible exact H2_) | (have H2_ := (Option.bind_some _ _).symm.trans H; with_reducible exact H2_) | with_reducible exact H | (rw [hy210]; exact H) | exact H
  have Ny210 := Aside0.mk hy210
  clear hy210
  replace H := Option.bind_eq_some_iff.mp H
  obtain ⟨t213, A60, H⟩ := H
  replace H : (if (strOfNums y210).size + t213.size ≤ 9223372036854775807 then (some ((strOfNums y210) ++ t213)) else (none)) = some r := H
  have A6 := Aside0.mk A60
  clear A60
  by_cases c7 : (strOfNums y210).size + t213.size ≤ 9223372036854775807
  ·rw [if_pos c7] at H
   have c7b0 := eq_true c7
   have c7b1 : decide ((strOfNums y210).size + t213.size ≤ 9223372036854775807) = true := decide_eq_true c7
   try have c7b2 : (9223372036854775807 < (strOfNums y210).size + t213.size) = False := eq_false (Nat.not_lt.2 c7)
   obtain rfl := Option.some.inj H
   go_enter Try.func56, Try.ntmps56
   try go_wp2
   have n0_ := Aside0.mk (below_drew1 HB.out)
   (clear HB; have HB := n0_; clear n0_)
   refine start_ (n := 11) (S := fun w' => True) (ds := []) #[false, false, false, false, false, false, false, false, false, false, false] (by kernel_rfl) rfl rfl trivial (fun hHeld => ?_); refine with_tabW copyholdref01_Num.tab3 copyholdref01_Num.bits3 (fun HT_ HW_ => ?_)
   generalize w.drew = w8 at HB hHeld ⊢
   refine pure_ (i := 0) (N := some 9) (v := ?_) (a' := ?_) #[true, false, false, false, false, false, false, false, false, false, false] rfl rfl (any_of HT_.out (by kernel_rfl)) (fun _ _ _ h => h) (Or.inl ⟨by rfl, ?_⟩) ?_ ?_
   (rotate_left; · (intro w'; go_simp; with_reducible rfl))
   (rotate_left; · (simp only [Act.put, List.setIfInBounds_toArray, List.set_cons_zero, List.set_cons_succ, i64_w, i32_w]; rfl))
   refine pure_ (i := 1) (N := some 10) (v := ?_) (a' := ?_) #[true, true, false, false, false, false, false, false, false, false, false] rfl rfl (any_of HT_.out (by kernel_rfl)) (fun _ _ _ h => h) (Or.inl ⟨by rfl, ?_⟩) ?_ ?_
   (rotate_left; · (intro w'; go_simp; with_reducible rfl))
   (rotate_left; · (simp only [Act.put, List.setIfInBounds_toArray, List.set_cons_zero, List.set_cons_succ, i64_w, i32_w]; rfl))
   refine pure_ (i := 2) (N := some 11) (v := ?_) (a' := ?_) #[true, true, true, false, false, false, false, false, false, false, false] rfl rfl (any_of HT_.out (by kernel_rfl)) (fun _ _ _ h => h) (Or.inl ⟨by rfl, ?_⟩) ?_ ?_
   (rotate_left; · (intro w'; go_simp; with_reducible rfl))
   (rotate_left; · (simp only [Act.put, List.setIfInBounds_toArray, List.set_cons_zero, List.set_cons_succ, i64_w, i32_w]; rfl))
   refine pure_ (i := 3) (N := some 12) (v := ?_) (a' := ?_) #[true, true, true, true, false, false, false, false, false, false, false] rfl rfl (any_of HT_.out (by kernel_rfl)) (fun _ _ _ h => h) (Or.inl ⟨by rfl, ?_⟩) ?_ ?_
   (rotate_left; · (intro w'; go_simp; with_reducible rfl))
   (rotate_left; · (simp only [Act.put, List.setIfInBounds_toArray, List.set_cons_zero, List.set_cons_succ, i64_w, i32_w]; rfl))
   refine pure_ (i := 6) (N := some 15) (v := ?_) (a' := ?_) #[true, true, true, true, false, false, true, false, false, false, false] rfl rfl (any_of HT_.out (by kernel_rfl)) (fun _ _ _ h => h) (Or.inl ⟨by rfl, ?_⟩) ?_ ?_
   (rotate_left; · (intro w'; go_simp; with_reducible rfl))
   (rotate_left; · (simp only [Act.put, List.setIfInBounds_toArray, List.set_cons_zero, List.set_cons_succ, i64_w, i32_w]; rfl))
   refine pure_ (i := 7) (N := some 16) (v := ?_) (a' := ?_) #[true, true, true, true, false, false, true, true, false, false, false] rfl rfl (any_of HT_.out (by kernel_rfl)) (fun _ _ _ h => h) (Or.inl ⟨by rfl, ?_⟩) ?_ ?_
   (rotate_left; · (intro w'; go_simp; with_reducible rfl))
   (rotate_left; · (simp only [Act.put, List.setIfInBounds_toArray, List.set_cons_zero, List.set_cons_succ, i64_w, i32_w]; rfl))
   refine join_ (σ := Value) 2 #[true, true, true, true, true, true, true, true, true, false, false] (fun s_ => [(13, s_), (14, .string (strOfNums y210)), (17, .string t213)]) (fun s_ w' => (Kd.R (Kd.int .u8) 5 w' w.heap.size (fun _ => True) s_ y210) ∧ (Below w.heap.size w w')) ?_ ?_
   rotate_left
   ·intro hCont
    refine two_ (i := 4) (j := 8) (Ni := some 13) (Nj := some 17) #[true, true, true, true, true, false, true, true, false, false, false] #[true, true, true, true, false, false, true, true, true, false, false] rfl rfl rfl rfl (two_of HT_.out (by kernel_rfl)) (by decide) (by decide) (fun K hK => ?_) (fun K hK => ?_)
    ·skip
     refine Kd.R_lit_step (Kd.int .u8) _ 5 ?hg (N := 13) ?hd (xs := ([(IntKind.u64.wrap ((Int.tmod a0 128) + 128)) % 256] : List Int)) (inner := [.int .u8 ((IntKind.u64.wrap ((Int.tmod a0 128) + 128)) % 256)]) (ok := fun _ => True) (okp := fun _ => True) ?hr ?hp (fun _ hk => hk) trivial (Below.refl _ _) (Nat.le_refl _) (by simp) ?_; (case hd => rfl); (case hg => rfl); (case hr => first | (go_simp; done) | (go_simp; rfl)); (case hp => exact (Reps.one (show Kd.M (Kd.int .u8) _ _ _ ((IntKind.u64.wrap ((Int.tmod a0 128) + 128)) % 256) [.int .u8 ((IntKind.u64.wrap ((Int.tmod a0 128) + 128)) % 256)] from rfl) (Reps.none _ _)))
     intro v211 w9 ho10 hb hg_ hnew_
     clear hg_ hnew_
     (first | rw [← Ny210.out] at ho10 | (simp only [Int.reduceToNat] at ho10; rw [← Ny210.out] at ho10))
     have n0_ := Aside0.mk (Kd.R_lower ho10 (below_size (by repeat (first | (with_reducible first | exact HB.out | apply below_alloc | apply pw_below_drewN | apply below_drew1) | exact HB.out))))
     have n1_ := Aside0.mk (below_step (by repeat (first | (with_reducible first | exact HB.out | apply below_alloc | apply pw_below_drewN | apply below_drew1) | exact HB.out)) hb)
     (clear HB; have HO212 := n0_; have HB := n1_; clear n0_ n1_; clear hb ho10)
     refine hK.out _ _ trivial (fun hHeld => ?_)
     clear hK K
     refine norm_ (a' := ?_) ?_ ?_
     rotate_left
     ·show Act.put _ (some 13) _ = _
      simp only [Act.put, List.setIfInBounds_toArray, List.set_cons_zero, List.set_cons_succ, i64_w, i32_w]
      rfl
     refine two_ (i := 5) (j := 8) (Ni := some 14) (Nj := some 17) #[true, true, true, true, true, true, true, true, false, false, false] #[true, true, true, true, true, false, true, true, true, false, false] rfl rfl rfl rfl (two_of HT_.out (by kernel_rfl)) (by decide) (by decide) (fun K hK => ?_) (fun K hK => ?_)
     ·skip
      have hcv11 := own_string (P := Try.prog) Try.underlying59 Try.underlying5 Try.underlying9 (Kd.own_of_R HO212.out)
      refine value_ (w1 := ?_) (v := ?_) (by rfl) rfl ?_ ?_
      rotate_left 2
      ·go_simp
       constructor
       ·rfl
       ·rfl
      clear hcv11
      refine hK.out _ _ trivial (fun hHeld => ?_)
      clear hK K
      refine norm_ (a' := ?_) ?_ ?_
      rotate_left
      ·show Act.put _ (some 14) _ = _
       simp only [Act.put, List.setIfInBounds_toArray, List.set_cons_zero, List.set_cons_succ, i64_w, i32_w]
       rfl
      refine one_ (i := 8) (N := some 17) #[true, true, true, true, true, true, true, true, true, false, false] rfl rfl (one_of HT_.out (by kernel_rfl)) (by decide) (fun K hK => ?_)
      refine goes_ Try.func56 (by kernel_rfl) rfl #[.int .u64 (IntKind.u64.wrap (Int.tdiv a0 128))] (by rfl) rfl rfl (by (try simp only [List.map_toArray, List.map_cons, List.map_nil]); first | done | rfl | (simp only [List.length_drop, List.length_take]; rfl)) ?_
      with_reducible refine (ih k (by omega) (IntKind.u64.wrap (Int.tdiv a0 128)) t213 _ A6.out).mono ?_
      rintro e w12 ⟨rfl, hb⟩
      refine ⟨_, rfl, ?_⟩
      have n0_ := Aside0.mk (Kd.R_below (by (with_reducible repeat (first | apply Kd.R_alloc | apply Kd.R_drewN | apply Kd.R_drew)); exact HO212.out) hb)
      have n1_ := Aside0.mk (below_step (by repeat (first | (with_reducible first | exact HB.out | apply below_alloc | apply pw_below_drewN | apply below_drew1) | exact HB.out)) hb)
      (clear HO212; clear HB; have HO212 := n0_; have HB := n1_; clear n0_ n1_; (try clear hb); (try clear hb2); (try clear hk); (try clear hi))
      refine hK.out _ _ trivial (fun hHeld => ?_)
      clear hK K
      refine norm_ (a' := ?_) ?_ ?_
      rotate_left
      ·show Act.put _ (some 17) _ = _
       simp only [Act.put, List.setIfInBounds_toArray, List.set_cons_zero, List.set_cons_succ, i64_w, i32_w]
       rfl
      exact norm_ (by simp only [putAll, Act.put, List.setIfInBounds_toArray, List.set_cons_zero, List.set_cons_succ]) (hCont (v211) _ ⟨(by (with_reducible repeat (first | apply Kd.R_alloc | apply Kd.R_drewN | apply Kd.R_drew)); exact HO212.out), (by repeat (first | (with_reducible first | exact HB.out | apply below_alloc | apply pw_below_drewN | apply below_drew1) | exact HB.out))⟩)
     ·skip
      refine goes_ Try.func56 (by kernel_rfl) rfl #[.int .u64 (IntKind.u64.wrap (Int.tdiv a0 128))] (by rfl) rfl rfl (by (try simp only [List.map_toArray, List.map_cons, List.map_nil]); first | done | rfl | (simp only [List.length_drop, List.length_take]; rfl)) ?_
      with_reducible refine (ih k (by omega) (IntKind.u64.wrap (Int.tdiv a0 128)) t213 _ A6.out).mono ?_
      rintro e w11 ⟨rfl, hb⟩
      refine ⟨_, rfl, ?_⟩
      have n0_ := Aside0.mk (Kd.R_below (by (with_reducible repeat (first | apply Kd.R_alloc | apply Kd.R_drewN | apply Kd.R_drew)); exact HO212.out) hb)
      have n1_ := Aside0.mk (below_step (by repeat (first | (with_reducible first | exact HB.out | apply below_alloc | apply pw_below_drewN | apply below_drew1) | exact HB.out)) hb)
      (clear HO212; clear HB; have HO212 := n0_; have HB := n1_; clear n0_ n1_; (try clear hb); (try clear hb2); (try clear hk); (try clear hi))
      refine hK.out _ _ trivial (fun hHeld => ?_)
      clear hK K
      refine norm_ (a' := ?_) ?_ ?_
      rotate_left
      ·show Act.put _ (some 17) _ = _
       simp only [Act.put, List.setIfInBounds_toArray, List.set_cons_zero, List.set_cons_succ, i64_w, i32_w]
       rfl
      refine one_ (i := 5) (N := some 14) #[true, true, true, true, true, true, true, true, true, false, false] rfl rfl (one_of HT_.out (by kernel_rfl)) (by decide) (fun K hK => ?_)
      have hcv12 := own_string (P := Try.prog) Try.underlying59 Try.underlying5 Try.underlying9 (Kd.own_of_R HO212.out)
      refine value_ (w1 := ?_) (v := ?_) (by rfl) rfl ?_ ?_
      rotate_left 2
      ·go_simp
       constructor
       ·rfl
       ·rfl
      clear hcv12
      refine hK.out _ _ trivial (fun hHeld => ?_)
      clear hK K
      refine norm_ (a' := ?_) ?_ ?_
      rotate_left
      ·show Act.put _ (some 14) _ = _
       simp only [Act.put, List.setIfInBounds_toArray, List.set_cons_zero, List.set_cons_succ, i64_w, i32_w]
       rfl
      exact norm_ (by simp only [putAll, Act.put, List.setIfInBounds_toArray, List.set_cons_zero, List.set_cons_succ]) (hCont (v211) _ ⟨(by (with_reducible repeat (first | apply Kd.R_alloc | apply Kd.R_drewN | apply Kd.R_drew)); exact HO212.out), (by repeat (first | (with_reducible first | exact HB.out | apply below_alloc | apply pw_below_drewN | apply below_drew1) | exact HB.out))⟩)
    ·skip
     refine goes_ Try.func56 (by kernel_rfl) rfl #[.int .u64 (IntKind.u64.wrap (Int.tdiv a0 128))] (by rfl) rfl rfl (by (try simp only [List.map_toArray, List.map_cons, List.map_nil]); first | done | rfl | (simp only [List.length_drop, List.length_take]; rfl)) ?_
     with_reducible refine (ih k (by omega) (IntKind.u64.wrap (Int.tdiv a0 128)) t213 _ A6.out).mono ?_
     rintro e w9 ⟨rfl, hb⟩
     refine ⟨_, rfl, ?_⟩
     have n0_ := Aside0.mk (below_step (by repeat (first | (with_reducible first | exact HB.out | apply below_alloc | apply pw_below_drewN | apply below_drew1) | exact HB.out)) hb)
     (clear HB; have HB := n0_; clear n0_; (try clear hb); (try clear hb2); (try clear hk); (try clear hi))
     refine hK.out _ _ trivial (fun hHeld => ?_)
     clear hK K
     refine norm_ (a' := ?_) ?_ ?_
     rotate_left
     ·show Act.put _ (some 17) _ = _
      simp only [Act.put, List.setIfInBounds_toArray, List.set_cons_zero, List.set_cons_succ, i64_w, i32_w]
      rfl
     refine one_ (i := 4) (N := some 13) #[true, true, true, true, true, false, true, true, true, false, false] rfl rfl (one_of HT_.out (by kernel_rfl)) (by decide) (fun K hK => ?_)
     refine Kd.R_lit_step (Kd.int .u8) _ 5 ?hg (N := 13) ?hd (xs := ([(IntKind.u64.wrap ((Int.tmod a0 128) + 128)) % 256] : List Int)) (inner := [.int .u8 ((IntKind.u64.wrap ((Int.tmod a0 128) + 128)) % 256)]) (ok := fun _ => True) (okp := fun _ => True) ?hr ?hp (fun _ hk => hk) trivial (Below.refl _ _) (Nat.le_refl _) (by simp) ?_; (case hd => rfl); (case hg => rfl); (case hr => first | (go_simp; done) | (go_simp; rfl)); (case hp => exact (Reps.one (show Kd.M (Kd.int .u8) _ _ _ ((IntKind.u64.wrap ((Int.tmod a0 128) + 128)) % 256) [.int .u8 ((IntKind.u64.wrap ((Int.tmod a0 128) + 128)) % 256)] from rfl) (Reps.none _ _)))
     intro v211 w10 ho11 hb hg_ hnew_
     clear hg_ hnew_
     (first | rw [← Ny210.out] at ho11 | (simp only [Int.reduceToNat] at ho11; rw [← Ny210.out] at ho11))
     have n0_ := Aside0.mk (Kd.R_lower ho11 (below_size (by repeat (first | (with_reducible first | exact HB.out | apply below_alloc | apply pw_below_drewN | apply below_drew1) | exact HB.out))))
     have n1_ := Aside0.mk (below_step (by repeat (first | (with_reducible first | exact HB.out | apply below_alloc | apply pw_below_drewN | apply below_drew1) | exact HB.out)) hb)
     (clear HB; have HO212 := n0_; have HB := n1_; clear n0_ n1_; clear hb ho11)
     refine hK.out _ _ trivial (fun hHeld => ?_)
     clear hK K
     refine norm_ (a' := ?_) ?_ ?_
     rotate_left
     ·show Act.put _ (some 13) _ = _
      simp only [Act.put, List.setIfInBounds_toArray, List.set_cons_zero, List.set_cons_succ, i64_w, i32_w]
      rfl
     refine one_ (i := 5) (N := some 14) #[true, true, true, true, true, true, true, true, true, false, false] rfl rfl (one_of HT_.out (by kernel_rfl)) (by decide) (fun K hK => ?_)
     have hcv12 := own_string (P := Try.prog) Try.underlying59 Try.underlying5 Try.underlying9 (Kd.own_of_R HO212.out)
     refine value_ (w1 := ?_) (v := ?_) (by rfl) rfl ?_ ?_
     rotate_left 2
     ·go_simp
      constructor
      ·rfl
      ·rfl
     clear hcv12
     refine hK.out _ _ trivial (fun hHeld => ?_)
     clear hK K
     refine norm_ (a' := ?_) ?_ ?_
     rotate_left
     ·show Act.put _ (some 14) _ = _
      simp only [Act.put, List.setIfInBounds_toArray, List.set_cons_zero, List.set_cons_succ, i64_w, i32_w]
      rfl
     exact norm_ (by simp only [putAll, Act.put, List.setIfInBounds_toArray, List.set_cons_zero, List.set_cons_succ]) (hCont (v211) _ ⟨(by (with_reducible repeat (first | apply Kd.R_alloc | apply Kd.R_drewN | apply Kd.R_drew)); exact HO212.out), (by repeat (first | (with_reducible first | exact HB.out | apply below_alloc | apply pw_below_drewN | apply below_drew1) | exact HB.out))⟩)
   rintro v211 w13 ⟨h0_, h1_⟩
   have n0_ : Aside0 (Kd.R (Kd.int .u8) 5 w13 w.heap.size (fun _ => True) v211 y210) := ⟨h0_⟩
   have n1_ : Aside0 (Below w.heap.size w w13) := ⟨h1_⟩
   (clear HB; clear h0_ h1_; have HO212 := n0_; have HB := n1_; clear n0_ n1_)
   have hHeld := trivial
   refine norm_ (a' := ?_) ?_ ?_
   (rotate_left; · (simp only [putAll, Act.put, List.setIfInBounds_toArray, List.set_cons_zero, List.set_cons_succ]; rfl))
   refine pure_ (i := 9) (N := some 18) (v := ?_) (a' := ?_) #[true, true, true, true, true, true, true, true, true, true, false] rfl rfl (any_of HT_.out (by kernel_rfl)) (fun _ _ _ h => h) (Or.inl ⟨by rfl, ?_⟩) ?_ ?_
   (rotate_left; · (intro w'; go_simp; with_reducible rfl))
   (rotate_left; · (simp only [Act.put, List.setIfInBounds_toArray, List.set_cons_zero, List.set_cons_succ, i64_w, i32_w]; rfl))
   refine pure_ (i := 10) (N := some 2) (v := ?_) (a' := ?_) #[true, true, true, true, true, true, true, true, true, true, true] rfl rfl (any_of HT_.out (by kernel_rfl)) (fun _ _ _ h => h) (Or.inl ⟨by rfl, ?_⟩) ?_ ?_
   (rotate_left; · (intro w'; go_simp; with_reducible rfl))
   (rotate_left; · (simp only [Act.put, List.setIfInBounds_toArray, List.set_cons_zero, List.set_cons_succ, i64_w, i32_w]; rfl))
   refine done_ (done_of HT_.out (by kernel_rfl)) ?_
   try go_wp2
   go_ret
   exact ⟨by first | rfl | (simp [errW_none, errW_some] <;> rfl) | (simp [*, errW_none, errW_some] <;> rfl), by repeat (first | (with_reducible first | exact HB.out | apply below_alloc | apply pw_below_drewN | apply below_drew1) | exact HB.out)⟩
  ·rw [if_neg c7] at H
   exact absurd H (by simp)

/-! ### copyholdref01_Fold: function 57 -/
/-! ### copyholdref15_whole: function 33 -/
/-! ### copyholdref01_Text: function 34 -/
end Go.Proofs.Ytgnmhbkialgeaaa.Q
end

section
/- The machine's side of laws of this seat: Go functions as Lean functions, and the proof that a call of each comes to what its function says (written by a program of this session, px.py, that runs the kit's print). -/
namespace Go.Proofs.Ytgnmhbkialgeaaa.Q
open Go.RowKit Go.Proofs.YtgnmhbkialgeaaaW.PrintWords Go.Proofs.YtgnmhbkialgeaaaW.PrintLast Go.Proofs.YtgnmhbkialgeaaaW.PrintMore
attribute [local go_sem] max2_int min2_int max_two min_two max_three min_three max_four min_four   -- for this text's walks alone
attribute [local go_sem high] Go.Proofs.Ytgnmhbkialgeaaa.px_xor_u8 Go.Proofs.Ytgnmhbkialgeaaa.px_xor_u16 Go.Proofs.Ytgnmhbkialgeaaa.px_xor_u32 Go.Proofs.Ytgnmhbkialgeaaa.px_xor_u64
set_option linter.unusedVariables false
set_option linter.unusedSimpArgs false

/-! ### copyholdref15_Call: function 18 -/
/-! ### copyholdref02_four: function 58 -/
def copyholdref02_four.f (a0 : Int) : Option (ByteArray) := some (strOfNums (([(Int.tmod a0 256) % 256, ((Int.tdiv a0 256) % 4294967296) % 256, ((Int.tdiv a0 65536) % 4294967296) % 256, ((Int.tdiv a0 16777216) % 4294967296) % 256] : List Int)))
set_option maxHeartbeats 8000000 in
set_option maxRecDepth 100000 in
theorem copyholdref02_four.calls (a0 : Int) (r : ByteArray) (w : World) (h : copyholdref02_four.f a0 = some r) :
  Calls Try.prog 58 #[.int .u32 a0] w fun e w' => e = .returned (.string r) ∧ Below w.heap.size w w' := by
 have HB := Aside0.mk (Below.refl w.heap.size w)
 have H : (some (strOfNums (([(Int.tmod a0 256) % 256, ((Int.tdiv a0 256) % 4294967296) % 256, ((Int.tdiv a0 65536) % 4294967296) % 256, ((Int.tdiv a0 16777216) % 4294967296) % 256] : List Int)))) = some r := h
 clear h
 obtain ⟨y226, hy226⟩ : ∃ y_ : List Int, y_ = (([(Int.tmod a0 256) % 256, ((Int.tdiv a0 256) % 4294967296) % 256, ((Int.tdiv a0 65536) % 4294967296) % 256, ((Int.tdiv a0 16777216) % 4294967296) % 256] : List Int)) := ⟨_, rfl⟩
 replace H : (some (strOfNums y226)) = some r := by first | (rw [hy226]; with_reducible exact H) | (have H2_ := (Option.bind_some _ _).symm.trans H; rw [hy226]; with_reducible exact H2_) | (have H2_ := (Option.bind_some _ _).symm.trans H; with_reducible exact H2_) | with_reducible exact H | (rw [hy226]; exact H) | exact H
 have Ny226 := Aside0.mk hy226
 clear hy226
 obtain rfl := Option.some.inj H
 go_enter Try.func58, Try.ntmps58
 go_wp2_with (first | ((with_reducible refine gate_dst (N := 17) rfl ?_); refine Kd.R_lit (Kd.int .u8) _ 5 ?hg (N := 17) ?hd (xs := ([(Int.tmod a0 256) % 256, ((Int.tdiv a0 256) % 4294967296) % 256, ((Int.tdiv a0 65536) % 4294967296) % 256, ((Int.tdiv a0 16777216) % 4294967296) % 256] : List Int)) (inner := [.int .u8 ((Int.tmod a0 256) % 256), .int .u8 (((Int.tdiv a0 256) % 4294967296) % 256), .int .u8 (((Int.tdiv a0 65536) % 4294967296) % 256), .int .u8 (((Int.tdiv a0 16777216) % 4294967296) % 256)]) (ok := fun _ => True) (okp := fun _ => True) ?hr ?hp (fun _ hk => hk) trivial (Below.refl _ _) (Nat.le_refl _) (by simp) ?_; (case hd => rfl); (case hg => rfl); (case hr => first | (go_simp; done) | (go_simp; rfl)); (case hp => exact (Reps.one (show Kd.M (Kd.int .u8) _ _ _ ((Int.tmod a0 256) % 256) [.int .u8 ((Int.tmod a0 256) % 256)] from rfl) (Reps.one (show Kd.M (Kd.int .u8) _ _ _ (((Int.tdiv a0 256) % 4294967296) % 256) [.int .u8 (((Int.tdiv a0 256) % 4294967296) % 256)] from rfl) (Reps.one (show Kd.M (Kd.int .u8) _ _ _ (((Int.tdiv a0 65536) % 4294967296) % 256) [.int .u8 (((Int.tdiv a0 65536) % 4294967296) % 256)] from rfl) (Reps.one (show Kd.M (Kd.int .u8) _ _ _ (((Int.tdiv a0 16777216) % 4294967296) % 256) [.int .u8 (((Int.tdiv a0 16777216) % 4294967296) % 256)] from rfl) (Reps.none _ _)))))); intro v227 w2 ho3 hb hg_ hnew_; clear hg_ hnew_; (first | rw [← Ny226.out] at ho3 | (simp only [Int.reduceToNat] at ho3; rw [← Ny226.out] at ho3)); have n0_ := Aside0.mk (Kd.R_lower ho3 (below_size (by repeat (first | (with_reducible first | exact HB.out | apply below_alloc | apply pw_below_drewN | apply below_drew1) | exact HB.out)))); have n1_ := Aside0.mk (below_step (by repeat (first | (with_reducible first | exact HB.out | apply below_alloc | apply pw_below_drewN | apply below_drew1) | exact HB.out)) hb); clear HB; have HO228 := n0_; have HB := n1_; clear n0_ n1_; clear hb ho3; have hcv4 := own_string (P := Try.prog) Try.underlying59 Try.underlying5 Try.underlying9 (Kd.own_of_R HO228.out)))
 go_ret
 exact ⟨by first | rfl | (simp [errW_none, errW_some] <;> rfl) | (simp [*, errW_none, errW_some] <;> rfl), by repeat (first | (with_reducible first | exact HB.out | apply below_alloc | apply pw_below_drewN | apply below_drew1) | exact HB.out)⟩

/-! ### copyholdref02_More: function 71 -/
mutual
def copyholdref02_More.l0 : Nat → Int → ByteArray → Int → Option (Int)
 | 0, _, _, _ => none
 | k + 1, x0, x1, x5 => if x5 < (x1.size : Int) then (if 0 ≤ x5 then (copyholdref02_More.l1 k (Go.bits .xor .u32 x0 ((bt x1 x5) % 4294967296)) x1 x5 0) else (none)) else (some x0)
def copyholdref02_More.l1 : Nat → Int → ByteArray → Int → Int → Option (Int)
 | 0, _, _, _, _ => none
 | k + 1, x0, x1, x5, x6 => if x6 < 8 then (if (Int.tmod x0 2) = 1 then (copyholdref02_More.l1 k (Go.bits .xor .u32 ((Int.tdiv x0 2) % 4294967296) 2197175160) x1 x5 (wrap64 (x6 + 1))) else (copyholdref02_More.l1 k ((Int.tdiv x0 2) % 4294967296) x1 x5 (wrap64 (x6 + 1)))) else (copyholdref02_More.l0 k x0 x1 (wrap64 (x5 + 1)))
end
def copyholdref02_More.f (k : Nat) (a0 : Int) (a1 : ByteArray) : Option (Int) := copyholdref02_More.l0 k a0 a1 0
theorem copyholdref02_More.mono_l : ∀ k, (∀ y0 y1 y2, LeO (copyholdref02_More.l0 k y0 y1 y2) (copyholdref02_More.l0 (k + 1) y0 y1 y2)) ∧ (∀ y0 y1 y2 y3, LeO (copyholdref02_More.l1 k y0 y1 y2 y3) (copyholdref02_More.l1 (k + 1) y0 y1 y2 y3))
  | 0 => ⟨fun _ _ _ r h => by simp [copyholdref02_More.l0] at h, fun _ _ _ _ r h => by simp [copyholdref02_More.l1] at h⟩
  | k + 1 => by
    obtain ⟨ih0, ih1⟩ := copyholdref02_More.mono_l k
    refine ⟨?_, ?_⟩
    · intro y0 y1 y2
      unfold copyholdref02_More.l0
      repeat' first
      | (with_reducible exact ih0 _ _ _)
      | (with_reducible exact ih1 _ _ _ _)
      | (with_reducible exact LeO.refl _)
      | (with_reducible exact LeO.none _)
      | (with_reducible refine LeO.ite ?_ ?_)
      | (with_reducible refine LeO.bind ?_ (fun _ => ?_))
      | exact ih0 _ _ _
      | exact ih1 _ _ _ _
      | exact LeO.none _
      | refine LeO.ite ?_ ?_
      | refine LeO.bind ?_ (fun _ => ?_)
    · intro y0 y1 y2 y3
      unfold copyholdref02_More.l1
      repeat' first
      | (with_reducible exact ih0 _ _ _)
      | (with_reducible exact ih1 _ _ _ _)
      | (with_reducible exact LeO.refl _)
      | (with_reducible exact LeO.none _)
      | (with_reducible refine LeO.ite ?_ ?_)
      | (with_reducible refine LeO.bind ?_ (fun _ => ?_))
      | exact ih0 _ _ _
      | exact ih1 _ _ _ _
      | exact LeO.none _
      | refine LeO.ite ?_ ?_
      | refine LeO.bind ?_ (fun _ => ?_)
theorem copyholdref02_More.mono : ∀ a0 a1 k, LeO (copyholdref02_More.f k a0 a1) (copyholdref02_More.f (k + 1) a0 a1) := by
  intro a0 a1 k
  obtain ⟨ih0, ih1⟩ := copyholdref02_More.mono_l k
  unfold copyholdref02_More.f
  repeat' first
      | (with_reducible exact ih0 _ _ _)
      | (with_reducible exact ih1 _ _ _ _)
      | (with_reducible exact LeO.refl _)
      | (with_reducible exact LeO.none _)
      | (with_reducible refine LeO.ite ?_ ?_)
      | (with_reducible refine LeO.bind ?_ (fun _ => ?_))
      | exact ih0 _ _ _
      | exact ih1 _ _ _ _
      | exact LeO.none _
      | refine LeO.ite ?_ ?_
      | refine LeO.bind ?_ (fun _ => ?_)
set_option maxHeartbeats 8000000 in
set_option maxRecDepth 100000 in
theorem copyholdref02_More.calls (k : Nat) (a0 : Int) (a1 : ByteArray) (r : Int) (w : World) (h : copyholdref02_More.f k a0 a1 = some r) :
    Calls Try.prog 71 #[.int .u32 a0, .string a1] w fun e w' => e = .returned (.int .u32 r) ∧ Drawn0 w w' := by
  have H : (copyholdref02_More.l0 k a0 a1 0) = some r := h
  clear h
  have H' := Aside0.mk H
  clear H
  go_enter Try.func71, Try.ntmps71
  go_wp2
  go_loopg [0, 5] k (fun kq v0 v5 w' => ∃ (x0_1 : Int) (x5_1 : Int), v0 = .int .u32 x0_1 ∧ v5 = .int .i64 x5_1 ∧ Aside0 (copyholdref02_More.l0 kq x0_1 a1 x5_1 = some r) ∧ Aside0 (kq ≤ k) ∧ Drawn0 w w')
  case atStart => exact ⟨(a0), (0), (by first | rfl | (simp; done) | (simp [*]; done)), (by first | rfl | (simp; done) | (simp [*]; done)), H', ⟨Nat.le_refl _⟩, by repeat (first | exact Drawn0.refl _ | apply Drawn0.step)⟩
  case round =>
    clear H'
    try clear p2
    obtain ⟨x0_1, x5_1, rfl, rfl, HA, HK1, ⟨m1, rfl⟩⟩ := hrel
    cases gk with
    | zero => exact absurd HA.out (by simp [copyholdref02_More.l0])
    | succ k1 =>
      have H := HA.out
      clear HA
      simp only [copyholdref02_More.l0] at H
      by_cases c3 : x5_1 < (a1.size : Int)
      · rw [if_pos c3] at H
        have c3b0 : decide (x5_1 < (a1.size : Int)) = true := decide_eq_true c3
        clear c3
        by_cases c4 : 0 ≤ x5_1
        · rw [if_pos c4] at H
          have c4b0 : decide (0 ≤ x5_1) = true := decide_eq_true c4
          clear c4
          have H' := Aside0.mk H
          clear H
          have p5 : 0 ≤ (x5_1 : Int) := of_decide_eq_true (by first | (with_reducible assumption) | assumption)
          have q5 : x5_1 < (a1.size : Int) := of_decide_eq_true (by first | (with_reducible assumption) | assumption)
          have hx5 := bt_at a1 x5_1
          replace p5 := eq_true p5
          replace q5 := eq_true q5
          go_wp2
          go_loopg [0, 6] k1 (fun kq v0 v6 w' => ∃ (x0_2 : Int) (x6_2 : Int), v0 = .int .u32 x0_2 ∧ v6 = .int .i64 x6_2 ∧ Aside0 (copyholdref02_More.l1 kq x0_2 a1 x5_1 x6_2 = some r) ∧ Aside0 (kq ≤ k1) ∧ Drawn0 w w')
          case atStart => exact ⟨(Go.bits .xor .u32 x0_1 ((bt a1 x5_1) % 4294967296)), (0), (by first | rfl | (simp; done) | (simp [*]; done)), (by first | rfl | (simp; done) | (simp [*]; done)), H', ⟨Nat.le_refl _⟩, by repeat (first | exact Drawn0.refl _ | apply Drawn0.step)⟩
          case round =>
            clear H'
            try clear p2
            try clear c3
            try clear c3b0
            try clear c4
            try clear c4b0
            try clear p5
            try clear q5
            try clear hx5
            try clear p2
            try clear p5
            try clear q5
            obtain ⟨x0_2, x6_2, rfl, rfl, HA, HK2, ⟨m2, rfl⟩⟩ := hrel
            cases gk with
            | zero => exact absurd HA.out (by simp [copyholdref02_More.l1])
            | succ k2 =>
              have H := HA.out
              clear HA
              simp only [copyholdref02_More.l1] at H
              by_cases c6 : x6_2 < 8
              · rw [if_pos c6] at H
                have c6b0 : decide (x6_2 < 8) = true := decide_eq_true c6
                clear c6
                by_cases c7 : (Int.tmod x0_2 2) = 1
                · rw [if_pos c7] at H
                  have c7b0 : ((Int.tmod x0_2 2) == 1) = true := beq_iff_eq.mpr c7
                  have c7b1 : ((Int.tmod x0_2 2) != 1) = false := bne_eq_false_iff_eq.mpr c7
                  clear c7
                  have H' := Aside0.mk H
                  clear H
                  go_wp2
                  go_roundg k2
                  case measure => have := HK1.out; have := HK2.out; omega
                  case rel => exact ⟨(Go.bits .xor .u32 ((Int.tdiv x0_2 2) % 4294967296) 2197175160), (wrap64 (x6_2 + 1)), (by first | rfl | (simp; done) | (simp [*]; done)), (by first | rfl | (simp; done) | (simp [*]; done)), H', ⟨by have := HK1.out; have := HK2.out; omega⟩, by repeat (first | exact Drawn0.refl _ | apply Drawn0.step)⟩
                · rw [if_neg c7] at H
                  have c7b0 : ((Int.tmod x0_2 2) == 1) = false := beq_eq_false_iff_ne.mpr c7
                  have c7b1 : ((Int.tmod x0_2 2) != 1) = true := bne_iff_ne.mpr c7
                  have H' := Aside0.mk H
                  clear H
                  go_wp2
                  go_roundg k2
                  case measure => have := HK1.out; have := HK2.out; omega
                  case rel => exact ⟨((Int.tdiv x0_2 2) % 4294967296), (wrap64 (x6_2 + 1)), (by first | rfl | (simp; done) | (simp [*]; done)), (by first | rfl | (simp; done) | (simp [*]; done)), H', ⟨by have := HK1.out; have := HK2.out; omega⟩, by repeat (first | exact Drawn0.refl _ | apply Drawn0.step)⟩
              · rw [if_neg c6] at H
                have c6b0 : decide (x6_2 < 8) = false := decide_eq_false c6
                clear c6
                have H' := Aside0.mk H
                clear H
                go_wp2
                go_roundg k2
                case measure => have := HK1.out; have := HK2.out; omega
                case rel => exact ⟨(x0_2), (wrap64 (x5_1 + 1)), (by first | rfl | (simp; done) | (simp [*]; done)), (by first | rfl | (simp; done) | (simp [*]; done)), H', ⟨by have := HK1.out; have := HK2.out; omega⟩, by repeat (first | exact Drawn0.refl _ | apply Drawn0.step)⟩
        · rw [if_neg c4] at H
          exact absurd H (by simp)
      · rw [if_neg c3] at H
        have c3b0 : decide (x5_1 < (a1.size : Int)) = false := decide_eq_false c3
        clear c3
        obtain rfl := Option.some.inj H
        go_wp2
        go_ret
        exact ⟨by first | rfl | (simp; done) | (simp [*]; done), by repeat (first | exact Drawn0.refl _ | apply Drawn0.step)⟩

/-! ### copyholdref02_Sum: function 59 -/
def copyholdref02_Sum.f (k : Nat) (a0 : ByteArray) : Option (Int) := (copyholdref02_More.f k 4294967295 a0).bind fun t229 => (some (Go.bits .xor .u32 t229 4294967295))
theorem copyholdref02_Sum.mono : ∀ a0 k, LeO (copyholdref02_Sum.f k a0) (copyholdref02_Sum.f (k + 1) a0) := by
 intro a0 k
 unfold copyholdref02_Sum.f
 repeat' first
   | (with_reducible exact copyholdref02_More.mono _ _ _)
   | (with_reducible exact LeO.refl _)
   | (with_reducible exact LeO.none _)
   | (with_reducible refine LeO.ite ?_ ?_)
   | (with_reducible refine LeO.bind ?_ (fun _ => ?_))
   | exact copyholdref02_More.mono _ _ _
   | exact LeO.none _
   | refine LeO.ite ?_ ?_
   | refine LeO.bind ?_ (fun _ => ?_)
set_option maxHeartbeats 8000000 in
set_option maxRecDepth 100000 in
theorem copyholdref02_Sum.calls (k : Nat) (a0 : ByteArray) (r : Int) (w : World) (h : copyholdref02_Sum.f k a0 = some r) :
  Calls Try.prog 59 #[.string a0] w fun e w' => e = .returned (.int .u32 r) ∧ Drawn0 w w' := by
 have H : ((copyholdref02_More.f k 4294967295 a0).bind fun t229 => (some (Go.bits .xor .u32 t229 4294967295))) = some r := h
 clear h
 replace H := Option.bind_eq_some_iff.mp H
 obtain ⟨t229, A20, H⟩ := H
 replace H : (some (Go.bits .xor .u32 t229 4294967295)) = some r := H
 have A2 := Aside0.mk A20
 clear A20
 obtain rfl := Option.some.inj H
 go_enter Try.func59, Try.ntmps59
 go_wp2_with (first | ((with_reducible refine gate_callee (f := 71) rfl ?_); refine goesL_ (some 4) rfl rfl Try.func71 (by kernel_rfl) rfl #[.int .u32 4294967295, .string a0] rfl (by (try simp only [List.map_toArray, List.map_cons, List.map_nil]); first | done | rfl | (simp only [List.length_drop, List.length_take]; rfl)) ?_; (with_reducible refine (copyholdref02_More.calls k 4294967295 a0 t229 _ A2.out).mono ?_); rintro e w' ⟨rfl, ⟨nd, rfl⟩⟩; refine ⟨_, rfl, ?_⟩))
 go_ret
 exact ⟨by first | rfl | (simp; done) | (simp [*]; done), by repeat (first | exact Drawn0.refl _ | apply Drawn0.step)⟩

/-! ### copyholdref02_Put: function 35 -/
end Go.Proofs.Ytgnmhbkialgeaaa.Q
end