import Derived.Test.YtcbfnfggnocndaaProg
import Derived.Below
import Derived.Deep.Draws
import Derived.Deep.AppendLies
import Derived.Maps.AppendAt
import Derived.OwnWalk
import Derived.Laws.BytesArg
import Derived.Laws.MakeOwn
import Derived.Laws.OwnMore
import Derived.Deep.OwnRows
import Derived.Tactics
import Derived.Lib.ConvBytes
import Derived.Laws.Slices
import Derived.WalkKit
import Derived.KernelRfl
import Derived.RowKit3
import Derived.Deep.LoopGhost
import Derived.Deep.QuietTactic
import Derived.BigQuiet
import Derived.WideLaws
import Derived.Deep.DeepCutAuto
import Derived.Deep.CutBlock
import Derived.Deep.RegionHeld3
import Derived.Laws.Rows
import Derived.Lib.AppendStr
import Derived.ArgAppend
import Derived.Laws.IdiomCopy
import Derived.OrdersHeld
import Derived.Laws.BitsLemmas
import Derived.RowKit
import Derived.Test.YtcbfnfggnocndaaZRedoCr0
import Derived.Test.YtcbfnfggnocndaaZRedoCr1
import Derived.Test.YtcbfnfggnocndaaZRedoCr2
import Derived.Test.YtcbfnfggnocndaaZRedoCr3
import Derived.Test.YtcbfnfggnocndaaZRedoCr4
import Derived.Test.YtcbfnfggnocndaaZRedoCr5
import Derived.Test.YtcbfnfggnocndaaZRedoCr6
import Derived.Test.YtcbfnfggnocndaaZRedoCr7
import Derived.Test.YtcbfnfggnocndaaZRedoCr8
import Derived.Test.YtcbfnfggnocndaaZRedoCr9
import Derived.Test.YtcbfnfggnocndaaZRedoCr10
import Derived.Test.YtcbfnfggnocndaaZRedoCr11
import Derived.Test.YtcbfnfggnocndaaZRedoCr12
import Derived.Test.YtcbfnfggnocndaaZRedoCr13
import Derived.Test.YtcbfnfggnocndaaZRedoCr14
import Derived.Test.YtcbfnfggnocndaaZRedoCr15
import Derived.Test.YtcbfnfggnocndaaZRedoCr16
import Derived.Test.YtcbfnfggnocndaaZRedoCr17
import Derived.Test.YtcbfnfggnocndaaZRedoCr18
import Derived.Test.YtcbfnfggnocndaaZRedoCr19
import Derived.Test.YtcbfnfggnocndaaZRedoCr20
import Derived.Test.YtcbfnfggnocndaaZRedoCr21
import Derived.RangeFuncBox
import Derived.RangeFuncNested
import Derived.RangeFuncLeaves
import Derived.Shelf.Abstract
import Derived.Shelf.AbstractIn
import Derived.OwnWalkIn
import Derived.TacticsInMore
import Derived.LoopNIn
import Derived.LoopIn
import Derived.Lib.Hide
import Derived.Outline
import Derived.Laws.Strings
import Derived.Laws.BitsAllLaws
import Derived.WideShapes
import Derived.Test.YtcbfnfggnocndaaZRedoCrA
set_option linter.unusedVariables false
set_option linter.unusedSimpArgs false
section
namespace Go.Proofs.Ytcbfnfggnocndaa.Q
open Go.RowKit Go.Proofs.YtcbfnfggnocndaaW.PrintWords Go.Proofs.YtcbfnfggnocndaaW.PrintLast Go.Proofs.YtcbfnfggnocndaaW.PrintMore
attribute [local go_sem] max2_int min2_int max_two min_two max_three min_three max_four min_four   -- for this text's walks alone
attribute [local go_sem high] Go.Proofs.Ytcbfnfggnocndaa.px_xor_u8 Go.Proofs.Ytcbfnfggnocndaa.px_xor_u16 Go.Proofs.Ytcbfnfggnocndaa.px_xor_u32 Go.Proofs.Ytcbfnfggnocndaa.px_xor_u64
def errW : Option Int → Value
  | none => .nilIface
  | some c => .iface 0 (.int .i64 c)
theorem errW_none : errW none = .nilIface := rfl
theorem errW_some (c : Int) : errW (some c) = .iface 0 (.int .i64 c) := rfl
theorem info5 : (Try.prog.info? 5).map (fun i => (i.zero, i.size, i.bytes)) = some (some (.int .u8 0), 1, 1) := by kernel_rfl
theorem info9 : (Try.prog.info? 9).map (fun i => (i.zero, i.size, i.bytes)) = some (some (.string ⟨#[]⟩), 1, 16) := by kernel_rfl
structure S88 where
  f0 : Int
  f1 : ByteArray
def z88 : S88 := ⟨(0 : Int), (⟨#[]⟩ : ByteArray)⟩
def k88 : Kd S88 := Kd.iso (Kd.pair (Kd.int .i64) Kd.string) (fun x : S88 => (x.f0, x.f1))
theorem k88_heap : Kd.Heap k88 := Kd.heap_iso _ (Kd.heap_pair (Kd.heap_int .i64) Kd.heap_string)
theorem k88_open {w : World} {x : S88} {cs : List Value} (h : k88.K w x cs) : cs = [.int .i64 x.f0, .string x.f1] := by
  obtain ⟨_, _, rfl, rfl, rfl⟩ := h
  exact rfl
theorem k88_mkM (w : World) (base : Nat) (ok : Nat → Prop) (x : S88)  : k88.M w base ok x [.int .i64 x.f0, .string x.f1] := ⟨[.int .i64 x.f0], [.string x.f1], rfl, rfl, rfl⟩
def rd_T88 (xs : List S88) (i : Int) : S88 := xs.getD i.toNat z88
theorem at_T88 {w : World} {A : Option Addr} {n : Nat} {xs : List S88} (h : Kd.C k88 w A n xs) (i : Int) (h0 : 0 ≤ i) (h1 : i < n) : ∃ ad , A = some ad ∧ w.cell? (ad.add (i.toNat * 2)) = some (.int .i64 (rd_T88 xs i).f0) ∧ w.cell? ⟨(ad.add (i.toNat * 2)).block, (ad.add (i.toNat * 2)).off + 1, none⟩ = some (.string (rd_T88 xs i).f1) := by
  obtain ⟨ad, c, e, _, hK, hc0⟩ := Kd.C_get h z88 i h0 h1
  have hc : ∀ j u, c[j]? = some u → w.cell? (ad.add (i.toNat * 2 + j)) = some u := hc0
  obtain rfl := k88_open hK
  exact ⟨ad, e, hc 0 _ rfl, by rw [← add_field _ _ 1 (by omega)]; exact hc 1 _ rfl⟩
end Go.Proofs.Ytcbfnfggnocndaa.Q
end

section
namespace Go.Proofs.Ytcbfnfggnocndaa.T
open Go.RowKit Go.Proofs.YtcbfnfggnocndaaW.PrintWords Go.Proofs.YtcbfnfggnocndaaW.PrintLast Go.Proofs.YtcbfnfggnocndaaW.PrintMore
attribute [local go_sem] max2_int min2_int max_two min_two max_three min_three max_four min_four   -- for this text's walks alone
attribute [local go_sem high] Go.Proofs.Ytcbfnfggnocndaa.px_xor_u8 Go.Proofs.Ytcbfnfggnocndaa.px_xor_u16 Go.Proofs.Ytcbfnfggnocndaa.px_xor_u32 Go.Proofs.Ytcbfnfggnocndaa.px_xor_u64
def errW : Option Int → Value
  | none => .nilIface
  | some c => .iface 0 (.int .i64 c)
theorem errW_none : errW none = .nilIface := rfl
theorem errW_some (c : Int) : errW (some c) = .iface 0 (.int .i64 c) := rfl
theorem info5 : (Try.prog.info? 5).map (fun i => (i.zero, i.size, i.bytes)) = some (some (.int .u8 0), 1, 1) := by kernel_rfl
end Go.Proofs.Ytcbfnfggnocndaa.T
end

section
namespace Go.Proofs.Ytcbfnfggnocndaa.T
open Go.RowKit Go.Proofs.YtcbfnfggnocndaaW.PrintWords Go.Proofs.YtcbfnfggnocndaaW.PrintLast Go.Proofs.YtcbfnfggnocndaaW.PrintMore
attribute [local go_sem] max2_int min2_int max_two min_two max_three min_three max_four min_four   -- for this text's walks alone
attribute [local go_sem high] Go.Proofs.Ytcbfnfggnocndaa.px_xor_u8 Go.Proofs.Ytcbfnfggnocndaa.px_xor_u16 Go.Proofs.Ytcbfnfggnocndaa.px_xor_u32 Go.Proofs.Ytcbfnfggnocndaa.px_xor_u64
mutual
def octet_TakeNum.l0 : Nat → ByteArray → Int → Int → Option (Int × ByteArray × Int)
 | 0, _, _, _ => none
 | k + 1, x0, x5, x6 => if x6 < (x0.size : Int) then (octet_TakeNum.j1 k x0 x5 x6 (decide (x6 < 10))) else (octet_TakeNum.j1 k x0 x5 x6 false)
def octet_TakeNum.j1 : Nat → ByteArray → Int → Int → Bool → Option (Int × ByteArray × Int)
 | 0, _, _, _, _ => none
 | k + 1, x0, x5, x6, x15 => if x15 = true then (if 0 ≤ x6 then (if x6 < (x0.size : Int) then (if 0 ≤ (wrap64 (7 * x6)) then (if (bt x0 x6) < 128 then (if (wrap64 (x6 + 1)) > 1 then (if (bt x0 x6) = 0 then (some (0, (⟨#[]⟩ : ByteArray), 3)) else (if (wrap64 (x6 + 1)) = 10 then (if (bt x0 x6) > 1 then (some (0, (⟨#[]⟩ : ByteArray), 3)) else (if 0 ≤ (wrap64 (x6 + 1)) then (if (wrap64 (x6 + 1)) ≤ (x0.size : Int) then (some (Go.bits .or .u64 x5 (shl .u64 (IntKind.u64.wrap (Go.bits .and .u8 (bt x0 x6) 127)) (wrap64 (7 * x6))), x0.extract ((wrap64 (x6 + 1)) : Int).toNat x0.size, 0)) else (none)) else (none))) else (if 0 ≤ (wrap64 (x6 + 1)) then (if (wrap64 (x6 + 1)) ≤ (x0.size : Int) then (some (Go.bits .or .u64 x5 (shl .u64 (IntKind.u64.wrap (Go.bits .and .u8 (bt x0 x6) 127)) (wrap64 (7 * x6))), x0.extract ((wrap64 (x6 + 1)) : Int).toNat x0.size, 0)) else (none)) else (none)))) else (if (wrap64 (x6 + 1)) = 10 then (if (bt x0 x6) > 1 then (some (0, (⟨#[]⟩ : ByteArray), 3)) else (if 0 ≤ (wrap64 (x6 + 1)) then (if (wrap64 (x6 + 1)) ≤ (x0.size : Int) then (some (Go.bits .or .u64 x5 (shl .u64 (IntKind.u64.wrap (Go.bits .and .u8 (bt x0 x6) 127)) (wrap64 (7 * x6))), x0.extract ((wrap64 (x6 + 1)) : Int).toNat x0.size, 0)) else (none)) else (none))) else (if 0 ≤ (wrap64 (x6 + 1)) then (if (wrap64 (x6 + 1)) ≤ (x0.size : Int) then (some (Go.bits .or .u64 x5 (shl .u64 (IntKind.u64.wrap (Go.bits .and .u8 (bt x0 x6) 127)) (wrap64 (7 * x6))), x0.extract ((wrap64 (x6 + 1)) : Int).toNat x0.size, 0)) else (none)) else (none)))) else (octet_TakeNum.l0 k x0 (Go.bits .or .u64 x5 (shl .u64 (IntKind.u64.wrap (Go.bits .and .u8 (bt x0 x6) 127)) (wrap64 (7 * x6)))) (wrap64 (x6 + 1)))) else (none)) else (none)) else (none)) else (if x6 = 10 then (some (0, (⟨#[]⟩ : ByteArray), 3)) else (some (0, (⟨#[]⟩ : ByteArray), 2)))
end
def octet_TakeNum.f (k : Nat) (a0 : ByteArray) : Option (Int × ByteArray × Int) := octet_TakeNum.l0 k a0 0 0
theorem octet_TakeNum.mono_l : ∀ k, (∀ y0 y1 y2, LeO (octet_TakeNum.l0 k y0 y1 y2) (octet_TakeNum.l0 (k + 1) y0 y1 y2)) ∧ (∀ y0 y1 y2 y3, LeO (octet_TakeNum.j1 k y0 y1 y2 y3) (octet_TakeNum.j1 (k + 1) y0 y1 y2 y3))
 | 0 => ⟨fun _ _ _ r h => by simp [octet_TakeNum.l0] at h, fun _ _ _ _ r h => by simp [octet_TakeNum.j1] at h⟩
 | k + 1 => by
  obtain ⟨ih0, ih1⟩ := octet_TakeNum.mono_l k
  refine ⟨?_, ?_⟩
  ·intro y0 y1 y2
   unfold octet_TakeNum.l0
   repeat' first
   | (with_reducible exact ih0 _ _ _)
   | (with_reducible exact ih1 _ _ _ _)
   | (with_reducible exact LeO.refl _)
   | (with_reducible exact LeO.none _)
   | (with_reducible refine LeO.ite ?_ ?_)
   | (with_reducible refine LeO.bind ?_ (fun _ => ?_))
   | exact ih0 _ _ _
   | exact ih1 _ _ _ _
   | exact LeO.none _
   | refine LeO.ite ?_ ?_
   | refine LeO.bind ?_ (fun _ => ?_)
  ·intro y0 y1 y2 y3
   unfold octet_TakeNum.j1
   repeat' first
   | (with_reducible exact ih0 _ _ _)
   | (with_reducible exact ih1 _ _ _ _)
   | (with_reducible exact LeO.refl _)
   | (with_reducible exact LeO.none _)
   | (with_reducible refine LeO.ite ?_ ?_)
   | (with_reducible refine LeO.bind ?_ (fun _ => ?_))
   | exact ih0 _ _ _
   | exact ih1 _ _ _ _
   | exact LeO.none _
   | refine LeO.ite ?_ ?_
   | refine LeO.bind ?_ (fun _ => ?_)
theorem octet_TakeNum.mono : ∀ a0 k, LeO (octet_TakeNum.f k a0) (octet_TakeNum.f (k + 1) a0) := by
 intro a0 k
 obtain ⟨ih0, ih1⟩ := octet_TakeNum.mono_l k
 unfold octet_TakeNum.f
 repeat' first
   | (with_reducible exact ih0 _ _ _)
   | (with_reducible exact ih1 _ _ _ _)
   | (with_reducible exact LeO.refl _)
   | (with_reducible exact LeO.none _)
   | (with_reducible refine LeO.ite ?_ ?_)
   | (with_reducible refine LeO.bind ?_ (fun _ => ?_))
   | exact ih0 _ _ _
   | exact ih1 _ _ _ _
   | exact LeO.none _
   | refine LeO.ite ?_ ?_
   | refine LeO.bind ?_ (fun _ => ?_)
set_option maxHeartbeats 8000000 in
set_option maxRecDepth 100000 in
theorem octet_TakeNum.calls (k : Nat) (a0 : ByteArray) (r1 : Int) (r2 : ByteArray) (r3 : Int) (w : World) (h : octet_TakeNum.f k a0 = some (r1, r2, r3)) :
  Calls Try.prog 76 #[.string a0] w fun e w' => e = .returned (.tuple #[.int .u64 r1, .string r2, .int .i64 r3]) ∧ Drawn0 w w' := by
 have H : (octet_TakeNum.l0 k a0 0 0) = some (r1, r2, r3) := h
 clear h
 have H' := zqj H
 clear H
 go_enter Try.func76, Try.ntmps76
 go_wp2
 repeat (go_quiet (fail); try go_wp2)
 go_loopg [5, 6] k (fun kq v5 v6 w' => ∃ (x5_1 : Int) (x6_1 : Int), v5 = .int .u64 x5_1 ∧ v6 = .int .i64 x6_1 ∧ Aside0 (octet_TakeNum.l0 kq a0 x5_1 x6_1 = some (r1, r2, r3)) ∧ Aside0 (kq ≤ k) ∧ Drawn0 w w')
 case atStart => exact ⟨(0), (0), (by first | rfl | (simp; done) | (simp [*]; done)), (by first | rfl | (simp; done) | (simp [*]; done)), H', ⟨Nat.le_refl _⟩, by repeat (first | exact Drawn0.refl _ | apply Drawn0.step)⟩
 case round =>
  clear H'
  obtain ⟨x5_1, x6_1, rfl, rfl, HA, HK1, ⟨m1, rfl⟩⟩ := hrel
  cases gk with
  | zero => exact absurd HA.out (by simp [octet_TakeNum.l0])
  | succ k1 =>
   (have H := HA.out; clear HA)
   simp only [octet_TakeNum.l0] at H
   have HC2 := zqj H
   clear H
   go_upto_region 3 with (fail)
   repeat (go_quiet (fail); go_upto_region 3 with (fail))
   go_cut [15] (fun v15 wc => ∃ (kq : Nat) (x15_1 : Bool), v15 = .bool x15_1 ∧ Aside0 (octet_TakeNum.j1 kq a0 x5_1 x6_1 x15_1 = some (r1, r2, r3)) ∧ Aside0 (kq ≤ k1) ∧ Drawn0 w wc)
   case first =>
    (have H := HC2.out; clear HC2)
    by_cases c3 : x6_1 < (a0.size : Int)
    ·rw [if_pos c3] at H
     have c3b0 : decide (x6_1 < (a0.size : Int)) = true := decide_eq_true c3
     clear c3
     (first | rw [c3b0] | (simp only [i64_w, i32_w]; rw [c3b0]) | skip)
     have H' := zqj H
     clear H
     go_wp2
     repeat (go_quiet (fail); try go_wp2)
     go_meet
     case rel => exact ⟨_, (decide (x6_1 < 10)), (by first | rfl | (simp; done) | (simp [*]; done)), H', ⟨by have := HK1.out; first | omega | exact Nat.le_refl _⟩, by repeat (first | exact Drawn0.refl _ | apply Drawn0.step)⟩
    ·rw [if_neg c3] at H
     have c3b0 : decide (x6_1 < (a0.size : Int)) = false := decide_eq_false c3
     clear c3
     (first | rw [c3b0] | (simp only [i64_w, i32_w]; rw [c3b0]) | skip)
     have H' := zqj H
     clear H
     go_wp2
     repeat (go_quiet (fail); try go_wp2)
     go_meet
     case rel => exact ⟨_, (false), (by first | rfl | (simp; done) | (simp [*]; done)), H', ⟨by have := HK1.out; first | omega | exact Nat.le_refl _⟩, by repeat (first | exact Drawn0.refl _ | apply Drawn0.step)⟩
   case rest =>
    (clear HC2; (try clear p2); (try clear c3); (try clear c3b0))
    obtain ⟨kq, x15_1, rfl, HA, HJ1, ⟨mc1, rfl⟩⟩ := hcut
    cases kq with
    | zero => exact absurd HA.out (by simp [octet_TakeNum.j1])
    | succ kj1 =>
     (have H := HA.out; clear HA)
     simp only [octet_TakeNum.j1] at H
     by_cases c4 : x15_1 = true
     ·subst c4
      have H1 : (if 0 ≤ x6_1 then (if x6_1 < (a0.size : Int) then (if 0 ≤ (wrap64 (7 * x6_1)) then (if (bt a0 x6_1) < 128 then (if (wrap64 (x6_1 + 1)) > 1 then (if (bt a0 x6_1) = 0 then (some (0, (⟨#[]⟩ : ByteArray), 3)) else (if (wrap64 (x6_1 + 1)) = 10 then (if (bt a0 x6_1) > 1 then (some (0, (⟨#[]⟩ : ByteArray), 3)) else (if 0 ≤ (wrap64 (x6_1 + 1)) then (if (wrap64 (x6_1 + 1)) ≤ (a0.size : Int) then (some (Go.bits .or .u64 x5_1 (shl .u64 (IntKind.u64.wrap (Go.bits .and .u8 (bt a0 x6_1) 127)) (wrap64 (7 * x6_1))), a0.extract ((wrap64 (x6_1 + 1)) : Int).toNat a0.size, 0)) else (none)) else (none))) else (if 0 ≤ (wrap64 (x6_1 + 1)) then (if (wrap64 (x6_1 + 1)) ≤ (a0.size : Int) then (some (Go.bits .or .u64 x5_1 (shl .u64 (IntKind.u64.wrap (Go.bits .and .u8 (bt a0 x6_1) 127)) (wrap64 (7 * x6_1))), a0.extract ((wrap64 (x6_1 + 1)) : Int).toNat a0.size, 0)) else (none)) else (none)))) else (if (wrap64 (x6_1 + 1)) = 10 then (if (bt a0 x6_1) > 1 then (some (0, (⟨#[]⟩ : ByteArray), 3)) else (if 0 ≤ (wrap64 (x6_1 + 1)) then (if (wrap64 (x6_1 + 1)) ≤ (a0.size : Int) then (some (Go.bits .or .u64 x5_1 (shl .u64 (IntKind.u64.wrap (Go.bits .and .u8 (bt a0 x6_1) 127)) (wrap64 (7 * x6_1))), a0.extract ((wrap64 (x6_1 + 1)) : Int).toNat a0.size, 0)) else (none)) else (none))) else (if 0 ≤ (wrap64 (x6_1 + 1)) then (if (wrap64 (x6_1 + 1)) ≤ (a0.size : Int) then (some (Go.bits .or .u64 x5_1 (shl .u64 (IntKind.u64.wrap (Go.bits .and .u8 (bt a0 x6_1) 127)) (wrap64 (7 * x6_1))), a0.extract ((wrap64 (x6_1 + 1)) : Int).toNat a0.size, 0)) else (none)) else (none)))) else (octet_TakeNum.l0 kj1 a0 (Go.bits .or .u64 x5_1 (shl .u64 (IntKind.u64.wrap (Go.bits .and .u8 (bt a0 x6_1) 127)) (wrap64 (7 * x6_1)))) (wrap64 (x6_1 + 1)))) else (none)) else (none)) else (none)) = some (r1, r2, r3) := by rw [if_pos rfl] at H; exact H
      clear H
      have H := H1
      clear H1
      by_cases c5 : 0 ≤ x6_1
      ·rw [if_pos c5] at H
       have c5b0 : decide (0 ≤ x6_1) = true := decide_eq_true c5
       clear c5
       by_cases c6 : x6_1 < (a0.size : Int)
       ·rw [if_pos c6] at H
        have c6b0 : decide (x6_1 < (a0.size : Int)) = true := decide_eq_true c6
        clear c6
        obtain ⟨ji8, hji8⟩ : ∃ j_ : Int, (wrap64 (7 * x6_1)) = j_ := ⟨_, rfl⟩
        replace H : (if 0 ≤ (ji8) then (if (bt a0 x6_1) < 128 then (if (wrap64 (x6_1 + 1)) > 1 then (if (bt a0 x6_1) = 0 then (some (0, (⟨#[]⟩ : ByteArray), 3)) else (if (wrap64 (x6_1 + 1)) = 10 then (if (bt a0 x6_1) > 1 then (some (0, (⟨#[]⟩ : ByteArray), 3)) else (if 0 ≤ (wrap64 (x6_1 + 1)) then (if (wrap64 (x6_1 + 1)) ≤ (a0.size : Int) then (some (Go.bits .or .u64 x5_1 (shl .u64 (IntKind.u64.wrap (Go.bits .and .u8 (bt a0 x6_1) 127)) (ji8)), a0.extract ((wrap64 (x6_1 + 1)) : Int).toNat a0.size, 0)) else (none)) else (none))) else (if 0 ≤ (wrap64 (x6_1 + 1)) then (if (wrap64 (x6_1 + 1)) ≤ (a0.size : Int) then (some (Go.bits .or .u64 x5_1 (shl .u64 (IntKind.u64.wrap (Go.bits .and .u8 (bt a0 x6_1) 127)) (ji8)), a0.extract ((wrap64 (x6_1 + 1)) : Int).toNat a0.size, 0)) else (none)) else (none)))) else (if (wrap64 (x6_1 + 1)) = 10 then (if (bt a0 x6_1) > 1 then (some (0, (⟨#[]⟩ : ByteArray), 3)) else (if 0 ≤ (wrap64 (x6_1 + 1)) then (if (wrap64 (x6_1 + 1)) ≤ (a0.size : Int) then (some (Go.bits .or .u64 x5_1 (shl .u64 (IntKind.u64.wrap (Go.bits .and .u8 (bt a0 x6_1) 127)) (ji8)), a0.extract ((wrap64 (x6_1 + 1)) : Int).toNat a0.size, 0)) else (none)) else (none))) else (if 0 ≤ (wrap64 (x6_1 + 1)) then (if (wrap64 (x6_1 + 1)) ≤ (a0.size : Int) then (some (Go.bits .or .u64 x5_1 (shl .u64 (IntKind.u64.wrap (Go.bits .and .u8 (bt a0 x6_1) 127)) (ji8)), a0.extract ((wrap64 (x6_1 + 1)) : Int).toNat a0.size, 0)) else (none)) else (none)))) else (octet_TakeNum.l0 kj1 a0 (Go.bits .or .u64 x5_1 (shl .u64 (IntKind.u64.wrap (Go.bits .and .u8 (bt a0 x6_1) 127)) (ji8))) (wrap64 (x6_1 + 1)))) else (none)) = some (r1, r2, r3) := by first | (rw [hji8] at H; exact H) | (simp only [hji8] at H ⊢; exact H)
        have hji8w : (IntKind.i64.wrap (7 * x6_1)) = ji8 := (i64_w _).trans hji8
        by_cases c9 : 0 ≤ (ji8)
        ·rw [if_pos c9] at H
         have c9b0 := eq_true c9
         have c9b1 : decide (0 ≤ (ji8)) = true := decide_eq_true c9
         clear c9
         obtain ⟨ji10, hji10⟩ : ∃ j_ : Int, (shl .u64 (IntKind.u64.wrap (Go.bits .and .u8 (bt a0 x6_1) 127)) (ji8)) = j_ := ⟨_, rfl⟩
         replace H : (if (bt a0 x6_1) < 128 then (if (wrap64 (x6_1 + 1)) > 1 then (if (bt a0 x6_1) = 0 then (some (0, (⟨#[]⟩ : ByteArray), 3)) else (if (wrap64 (x6_1 + 1)) = 10 then (if (bt a0 x6_1) > 1 then (some (0, (⟨#[]⟩ : ByteArray), 3)) else (if 0 ≤ (wrap64 (x6_1 + 1)) then (if (wrap64 (x6_1 + 1)) ≤ (a0.size : Int) then (some (Go.bits .or .u64 x5_1 (ji10), a0.extract ((wrap64 (x6_1 + 1)) : Int).toNat a0.size, 0)) else (none)) else (none))) else (if 0 ≤ (wrap64 (x6_1 + 1)) then (if (wrap64 (x6_1 + 1)) ≤ (a0.size : Int) then (some (Go.bits .or .u64 x5_1 (ji10), a0.extract ((wrap64 (x6_1 + 1)) : Int).toNat a0.size, 0)) else (none)) else (none)))) else (if (wrap64 (x6_1 + 1)) = 10 then (if (bt a0 x6_1) > 1 then (some (0, (⟨#[]⟩ : ByteArray), 3)) else (if 0 ≤ (wrap64 (x6_1 + 1)) then (if (wrap64 (x6_1 + 1)) ≤ (a0.size : Int) then (some (Go.bits .or .u64 x5_1 (ji10), a0.extract ((wrap64 (x6_1 + 1)) : Int).toNat a0.size, 0)) else (none)) else (none))) else (if 0 ≤ (wrap64 (x6_1 + 1)) then (if (wrap64 (x6_1 + 1)) ≤ (a0.size : Int) then (some (Go.bits .or .u64 x5_1 (ji10), a0.extract ((wrap64 (x6_1 + 1)) : Int).toNat a0.size, 0)) else (none)) else (none)))) else (octet_TakeNum.l0 kj1 a0 (Go.bits .or .u64 x5_1 (ji10)) (wrap64 (x6_1 + 1)))) = some (r1, r2, r3) := by first | (rw [hji10] at H; exact H) | (simp only [hji10] at H ⊢; exact H)
         have hji10_ : (IntKind.u64.wrap ((IntKind.u64.wrap (Go.bits .and .u8 (bt a0 x6_1) 127)) * 2 ^ min (ji8).toNat 64)) = ji10 := hji10
         have hji10z : (ji8) ≤ 64 → (IntKind.u64.wrap ((IntKind.u64.wrap (Go.bits .and .u8 (bt a0 x6_1) 127)) * 2 ^ (ji8).toNat)) = ji10 := shl_small hji10
         by_cases c11 : (bt a0 x6_1) < 128
         ·rw [if_pos c11] at H
          have c11b0 : decide ((bt a0 x6_1) < 128) = true := decide_eq_true c11
          clear c11
          by_cases c12 : (wrap64 (x6_1 + 1)) > 1
          ·rw [if_pos c12] at H
           have c12b0 : decide (1 < (wrap64 (x6_1 + 1))) = true := decide_eq_true c12
           clear c12
           by_cases c13 : (bt a0 x6_1) = 0
           ·rw [if_pos c13] at H
            have c13b0 : ((bt a0 x6_1) == 0) = true := beq_iff_eq.mpr c13
            have c13b1 : ((bt a0 x6_1) != 0) = false := bne_eq_false_iff_eq.mpr c13
            clear c13
            simp only [Option.some.injEq, Prod.mk.injEq] at H
            obtain ⟨rfl, rfl, rfl⟩ := H
            have p7 : 0 ≤ (x6_1 : Int) := zqh (by first | (with_reducible assumption) | assumption)
            have q7 : x6_1 < (a0.size : Int) := zqh (by first | (with_reducible assumption) | assumption)
            have hx7 := bt_at a0 x6_1
            replace p7 := eq_true p7
            replace q7 := eq_true q7
            go_wp2
            repeat (go_quiet (fail); try go_wp2)
            go_ret3
            exact ⟨by first | rfl | (simp; done) | (simp only [← hji8, ← hji10] <;> (first | rfl | simp)) | (simp [*]; done), by repeat (first | exact Drawn0.refl _ | apply Drawn0.step)⟩
           ·rw [if_neg c13] at H
            have c13b0 : ((bt a0 x6_1) == 0) = false := beq_eq_false_iff_ne.mpr c13
            have c13b1 : ((bt a0 x6_1) != 0) = true := bne_iff_ne.mpr c13
            by_cases c14 : (wrap64 (x6_1 + 1)) = 10
            ·rw [if_pos c14] at H
             have c14b0 : ((wrap64 (x6_1 + 1)) == 10) = true := beq_iff_eq.mpr c14
             have c14b1 : ((wrap64 (x6_1 + 1)) != 10) = false := bne_eq_false_iff_eq.mpr c14
             clear c14
             by_cases c15 : (bt a0 x6_1) > 1
             ·rw [if_pos c15] at H
              have c15b0 : decide (1 < (bt a0 x6_1)) = true := decide_eq_true c15
              clear c15
              simp only [Option.some.injEq, Prod.mk.injEq] at H
              obtain ⟨rfl, rfl, rfl⟩ := H
              have p7 : 0 ≤ (x6_1 : Int) := zqh (by first | (with_reducible assumption) | assumption)
              have q7 : x6_1 < (a0.size : Int) := zqh (by first | (with_reducible assumption) | assumption)
              have hx7 := bt_at a0 x6_1
              replace p7 := eq_true p7
              replace q7 := eq_true q7
              go_wp2
              repeat (go_quiet (fail); try go_wp2)
              go_ret3
              exact ⟨by first | rfl | (simp; done) | (simp only [← hji8, ← hji10] <;> (first | rfl | simp)) | (simp [*]; done), by repeat (first | exact Drawn0.refl _ | apply Drawn0.step)⟩
             ·rw [if_neg c15] at H
              have c15b0 : decide (1 < (bt a0 x6_1)) = false := decide_eq_false c15
              clear c15
              obtain ⟨ji16, hji16⟩ : ∃ j_ : Int, (wrap64 (x6_1 + 1)) = j_ := ⟨_, rfl⟩
              replace H : (if 0 ≤ (ji16) then (if (ji16) ≤ (a0.size : Int) then (some (Go.bits .or .u64 x5_1 (ji10), a0.extract ((ji16) : Int).toNat a0.size, 0)) else (none)) else (none)) = some (r1, r2, r3) := by first | (rw [hji16] at H; exact H) | (simp only [hji16] at H ⊢; exact H)
              (try rw [hji16] at c12b0)
              (try rw [hji16] at c14b0)
              (try rw [hji16] at c14b1)
              have hji16w : (IntKind.i64.wrap (x6_1 + 1)) = ji16 := (i64_w _).trans hji16
              by_cases c17 : 0 ≤ (ji16)
              ·rw [if_pos c17] at H
               have c17b0 := eq_true c17
               have c17b1 : decide (0 ≤ (ji16)) = true := decide_eq_true c17
               clear c17
               by_cases c18 : (ji16) ≤ (a0.size : Int)
               ·rw [if_pos c18] at H
                have c18b0 := eq_true c18
                have c18b1 : decide ((ji16) ≤ (a0.size : Int)) = true := decide_eq_true c18
                clear c18
                simp only [Option.some.injEq, Prod.mk.injEq] at H
                obtain ⟨rfl, rfl, rfl⟩ := H
                have p7 : 0 ≤ (x6_1 : Int) := zqh (by first | (with_reducible assumption) | assumption)
                have q7 : x6_1 < (a0.size : Int) := zqh (by first | (with_reducible assumption) | assumption)
                have hx7 := bt_at a0 x6_1
                replace p7 := eq_true p7
                replace q7 := eq_true q7
                go_wp2
                repeat (go_quiet (fail); try go_wp2)
                go_ret3
                exact ⟨by first | rfl | (simp; done) | (simp only [← hji8, ← hji10, ← hji16] <;> (first | rfl | simp)) | (simp [*]; done), by repeat (first | exact Drawn0.refl _ | apply Drawn0.step)⟩
               ·rw [if_neg c18] at H
                exact absurd H (by simp)
              ·rw [if_neg c17] at H
               exact absurd H (by simp)
            ·rw [if_neg c14] at H
             have c14b0 : ((wrap64 (x6_1 + 1)) == 10) = false := beq_eq_false_iff_ne.mpr c14
             have c14b1 : ((wrap64 (x6_1 + 1)) != 10) = true := bne_iff_ne.mpr c14
             obtain ⟨ji19, hji19⟩ : ∃ j_ : Int, (wrap64 (x6_1 + 1)) = j_ := ⟨_, rfl⟩
             replace H : (if 0 ≤ (ji19) then (if (ji19) ≤ (a0.size : Int) then (some (Go.bits .or .u64 x5_1 (ji10), a0.extract ((ji19) : Int).toNat a0.size, 0)) else (none)) else (none)) = some (r1, r2, r3) := by first | (rw [hji19] at H; exact H) | (simp only [hji19] at H ⊢; exact H)
             (try rw [hji19] at c12b0)
             (try rw [hji19] at c14b0)
             (try rw [hji19] at c14b1)
             have hji19w : (IntKind.i64.wrap (x6_1 + 1)) = ji19 := (i64_w _).trans hji19
             by_cases c20 : 0 ≤ (ji19)
             ·rw [if_pos c20] at H
              have c20b0 := eq_true c20
              have c20b1 : decide (0 ≤ (ji19)) = true := decide_eq_true c20
              clear c20
              by_cases c21 : (ji19) ≤ (a0.size : Int)
              ·rw [if_pos c21] at H
               have c21b0 := eq_true c21
               have c21b1 : decide ((ji19) ≤ (a0.size : Int)) = true := decide_eq_true c21
               clear c21
               simp only [Option.some.injEq, Prod.mk.injEq] at H
               obtain ⟨rfl, rfl, rfl⟩ := H
               have p7 : 0 ≤ (x6_1 : Int) := zqh (by first | (with_reducible assumption) | assumption)
               have q7 : x6_1 < (a0.size : Int) := zqh (by first | (with_reducible assumption) | assumption)
               have hx7 := bt_at a0 x6_1
               replace p7 := eq_true p7
               replace q7 := eq_true q7
               go_wp2
               repeat (go_quiet (fail); try go_wp2)
               go_ret3
               exact ⟨by first | rfl | (simp; done) | (simp only [← hji8, ← hji10, ← hji19] <;> (first | rfl | simp)) | (simp [*]; done), by repeat (first | exact Drawn0.refl _ | apply Drawn0.step)⟩
              ·rw [if_neg c21] at H
               exact absurd H (by simp)
             ·rw [if_neg c20] at H
              exact absurd H (by simp)
          ·rw [if_neg c12] at H
           have c12b0 : decide (1 < (wrap64 (x6_1 + 1))) = false := decide_eq_false c12
           clear c12
           by_cases c22 : (wrap64 (x6_1 + 1)) = 10
           ·rw [if_pos c22] at H
            have c22b0 : ((wrap64 (x6_1 + 1)) == 10) = true := beq_iff_eq.mpr c22
            have c22b1 : ((wrap64 (x6_1 + 1)) != 10) = false := bne_eq_false_iff_eq.mpr c22
            clear c22
            by_cases c23 : (bt a0 x6_1) > 1
            ·rw [if_pos c23] at H
             have c23b0 : decide (1 < (bt a0 x6_1)) = true := decide_eq_true c23
             clear c23
             simp only [Option.some.injEq, Prod.mk.injEq] at H
             obtain ⟨rfl, rfl, rfl⟩ := H
             have p7 : 0 ≤ (x6_1 : Int) := zqh (by first | (with_reducible assumption) | assumption)
             have q7 : x6_1 < (a0.size : Int) := zqh (by first | (with_reducible assumption) | assumption)
             have hx7 := bt_at a0 x6_1
             replace p7 := eq_true p7
             replace q7 := eq_true q7
             go_wp2
             repeat (go_quiet (fail); try go_wp2)
             go_ret3
             exact ⟨by first | rfl | (simp; done) | (simp only [← hji8, ← hji10] <;> (first | rfl | simp)) | (simp [*]; done), by repeat (first | exact Drawn0.refl _ | apply Drawn0.step)⟩
            ·rw [if_neg c23] at H
             have c23b0 : decide (1 < (bt a0 x6_1)) = false := decide_eq_false c23
             clear c23
             obtain ⟨ji24, hji24⟩ : ∃ j_ : Int, (wrap64 (x6_1 + 1)) = j_ := ⟨_, rfl⟩
             replace H : (if 0 ≤ (ji24) then (if (ji24) ≤ (a0.size : Int) then (some (Go.bits .or .u64 x5_1 (ji10), a0.extract ((ji24) : Int).toNat a0.size, 0)) else (none)) else (none)) = some (r1, r2, r3) := by first | (rw [hji24] at H; exact H) | (simp only [hji24] at H ⊢; exact H)
             (try rw [hji24] at c12b0)
             (try rw [hji24] at c22b0)
             (try rw [hji24] at c22b1)
             have hji24w : (IntKind.i64.wrap (x6_1 + 1)) = ji24 := (i64_w _).trans hji24
             by_cases c25 : 0 ≤ (ji24)
             ·rw [if_pos c25] at H
              have c25b0 := eq_true c25
              have c25b1 : decide (0 ≤ (ji24)) = true := decide_eq_true c25
              clear c25
              by_cases c26 : (ji24) ≤ (a0.size : Int)
              ·rw [if_pos c26] at H
               have c26b0 := eq_true c26
               have c26b1 : decide ((ji24) ≤ (a0.size : Int)) = true := decide_eq_true c26
               clear c26
               simp only [Option.some.injEq, Prod.mk.injEq] at H
               obtain ⟨rfl, rfl, rfl⟩ := H
               have p7 : 0 ≤ (x6_1 : Int) := zqh (by first | (with_reducible assumption) | assumption)
               have q7 : x6_1 < (a0.size : Int) := zqh (by first | (with_reducible assumption) | assumption)
               have hx7 := bt_at a0 x6_1
               replace p7 := eq_true p7
               replace q7 := eq_true q7
               go_wp2
               repeat (go_quiet (fail); try go_wp2)
               go_ret3
               exact ⟨by first | rfl | (simp; done) | (simp only [← hji8, ← hji10, ← hji24] <;> (first | rfl | simp)) | (simp [*]; done), by repeat (first | exact Drawn0.refl _ | apply Drawn0.step)⟩
              ·rw [if_neg c26] at H
               exact absurd H (by simp)
             ·rw [if_neg c25] at H
              exact absurd H (by simp)
           ·rw [if_neg c22] at H
            have c22b0 : ((wrap64 (x6_1 + 1)) == 10) = false := beq_eq_false_iff_ne.mpr c22
            have c22b1 : ((wrap64 (x6_1 + 1)) != 10) = true := bne_iff_ne.mpr c22
            obtain ⟨ji27, hji27⟩ : ∃ j_ : Int, (wrap64 (x6_1 + 1)) = j_ := ⟨_, rfl⟩
            replace H : (if 0 ≤ (ji27) then (if (ji27) ≤ (a0.size : Int) then (some (Go.bits .or .u64 x5_1 (ji10), a0.extract ((ji27) : Int).toNat a0.size, 0)) else (none)) else (none)) = some (r1, r2, r3) := by first | (rw [hji27] at H; exact H) | (simp only [hji27] at H ⊢; exact H)
            (try rw [hji27] at c12b0)
            (try rw [hji27] at c22b0)
            (try rw [hji27] at c22b1)
            have hji27w : (IntKind.i64.wrap (x6_1 + 1)) = ji27 := (i64_w _).trans hji27
            by_cases c28 : 0 ≤ (ji27)
            ·rw [if_pos c28] at H
             have c28b0 := eq_true c28
             have c28b1 : decide (0 ≤ (ji27)) = true := decide_eq_true c28
             clear c28
             by_cases c29 : (ji27) ≤ (a0.size : Int)
             ·rw [if_pos c29] at H
              have c29b0 := eq_true c29
              have c29b1 : decide ((ji27) ≤ (a0.size : Int)) = true := decide_eq_true c29
              clear c29
              simp only [Option.some.injEq, Prod.mk.injEq] at H
              obtain ⟨rfl, rfl, rfl⟩ := H
              have p7 : 0 ≤ (x6_1 : Int) := zqh (by first | (with_reducible assumption) | assumption)
              have q7 : x6_1 < (a0.size : Int) := zqh (by first | (with_reducible assumption) | assumption)
              have hx7 := bt_at a0 x6_1
              replace p7 := eq_true p7
              replace q7 := eq_true q7
              go_wp2
              repeat (go_quiet (fail); try go_wp2)
              go_ret3
              exact ⟨by first | rfl | (simp; done) | (simp only [← hji8, ← hji10, ← hji27] <;> (first | rfl | simp)) | (simp [*]; done), by repeat (first | exact Drawn0.refl _ | apply Drawn0.step)⟩
             ·rw [if_neg c29] at H
              exact absurd H (by simp)
            ·rw [if_neg c28] at H
             exact absurd H (by simp)
         ·rw [if_neg c11] at H
          have c11b0 : decide ((bt a0 x6_1) < 128) = false := decide_eq_false c11
          clear c11
          have H' := zqj H
          clear H
          have p7 : 0 ≤ (x6_1 : Int) := zqh (by first | (with_reducible assumption) | assumption)
          have q7 : x6_1 < (a0.size : Int) := zqh (by first | (with_reducible assumption) | assumption)
          have hx7 := bt_at a0 x6_1
          replace p7 := eq_true p7
          replace q7 := eq_true q7
          go_wp2
          repeat (go_quiet (fail); try go_wp2)
          go_roundg kj1
          case measure => have := HK1.out; have := HJ1.out; omega
          case rel => exact ⟨(Go.bits .or .u64 x5_1 (ji10)), (wrap64 (x6_1 + 1)), (by first | rfl | (simp; done) | (simp only [← hji10] <;> (first | rfl | simp)) | (simp [*]; done)), (by first | rfl | (simp; done) | (simp [*]; done)), H', ⟨by have := HK1.out; have := HJ1.out; omega⟩, by repeat (first | exact Drawn0.refl _ | apply Drawn0.step)⟩
        ·rw [if_neg c9] at H
         exact absurd H (by simp)
       ·rw [if_neg c6] at H
        exact absurd H (by simp)
      ·rw [if_neg c5] at H
       exact absurd H (by simp)
     ·replace c4 := Bool.eq_false_iff.mpr c4
      subst c4
      have H1 : (if x6_1 = 10 then (some (0, (⟨#[]⟩ : ByteArray), 3)) else (some (0, (⟨#[]⟩ : ByteArray), 2))) = some (r1, r2, r3) := by rw [if_neg (show ¬ (false = true) by decide)] at H; exact H
      clear H
      have H := H1
      clear H1
      by_cases c30 : x6_1 = 10
      ·rw [if_pos c30] at H
       have c30b0 : (x6_1 == 10) = true := beq_iff_eq.mpr c30
       have c30b1 : (x6_1 != 10) = false := bne_eq_false_iff_eq.mpr c30
       clear c30
       simp only [Option.some.injEq, Prod.mk.injEq] at H
       obtain ⟨rfl, rfl, rfl⟩ := H
       go_wp2
       repeat (go_quiet (fail); try go_wp2)
       go_ret3
       exact ⟨by first | rfl | (simp; done) | (simp [*]; done), by repeat (first | exact Drawn0.refl _ | apply Drawn0.step)⟩
      ·rw [if_neg c30] at H
       have c30b0 : (x6_1 == 10) = false := beq_eq_false_iff_ne.mpr c30
       have c30b1 : (x6_1 != 10) = true := bne_iff_ne.mpr c30
       simp only [Option.some.injEq, Prod.mk.injEq] at H
       obtain ⟨rfl, rfl, rfl⟩ := H
       go_wp2
       repeat (go_quiet (fail); try go_wp2)
       go_ret3
       exact ⟨by first | rfl | (simp; done) | (simp [*]; done), by repeat (first | exact Drawn0.refl _ | apply Drawn0.step)⟩
def octet_TakeText.j0 : Nat → Int → ByteArray → Bool → Option (ByteArray × ByteArray × Int)
 | 0, _, _, _ => none
 | k + 1, x7, x8, x20 => if x20 = true then (some ((⟨#[]⟩ : ByteArray), (⟨#[]⟩ : ByteArray), 5)) else (if x7 > (IntKind.u64.wrap ((x8.size : Int))) then (some ((⟨#[]⟩ : ByteArray), (⟨#[]⟩ : ByteArray), 2)) else (if 0 ≤ x7 then (if x7 ≤ (x8.size : Int) then (some (x8.extract 0 (x7 : Int).toNat, x8.extract (x7 : Int).toNat x8.size, 0)) else (none)) else (none)))
def octet_TakeText.f (k : Nat) (a0 : ByteArray) (a1 : Int) : Option (ByteArray × ByteArray × Int) := (octet_TakeNum.f k a0).bind fun bt101 => (if bt101.2.2 = 0 then (if a1 < 0 then (octet_TakeText.j0 k bt101.1 bt101.2.1 true) else (octet_TakeText.j0 k bt101.1 bt101.2.1 (decide (bt101.1 > (IntKind.u64.wrap (a1)))))) else (some ((⟨#[]⟩ : ByteArray), (⟨#[]⟩ : ByteArray), bt101.2.2)))
theorem octet_TakeText.mono_l : ∀ k, (∀ y0 y1 y2, LeO (octet_TakeText.j0 k y0 y1 y2) (octet_TakeText.j0 (k + 1) y0 y1 y2))
 | 0 => fun _ _ _ r h => by simp [octet_TakeText.j0] at h
 | k + 1 => by
  have ih0 := octet_TakeText.mono_l k
  ·intro y0 y1 y2
   unfold octet_TakeText.j0
   repeat' first
   | (with_reducible exact ih0 _ _ _)
   | (with_reducible exact octet_TakeNum.mono _ _)
   | (with_reducible exact LeO.refl _)
   | (with_reducible exact LeO.none _)
   | (with_reducible refine LeO.ite ?_ ?_)
   | (with_reducible refine LeO.bind ?_ (fun _ => ?_))
   | exact ih0 _ _ _
   | exact octet_TakeNum.mono _ _
   | exact LeO.none _
   | refine LeO.ite ?_ ?_
   | refine LeO.bind ?_ (fun _ => ?_)
theorem octet_TakeText.mono : ∀ a0 a1 k, LeO (octet_TakeText.f k a0 a1) (octet_TakeText.f (k + 1) a0 a1) := by
 intro a0 a1 k
 have ih0 := octet_TakeText.mono_l k
 unfold octet_TakeText.f
 repeat' first
   | (with_reducible exact ih0 _ _ _)
   | (with_reducible exact octet_TakeNum.mono _ _)
   | (with_reducible exact LeO.refl _)
   | (with_reducible exact LeO.none _)
   | (with_reducible refine LeO.ite ?_ ?_)
   | (with_reducible refine LeO.bind ?_ (fun _ => ?_))
   | exact ih0 _ _ _
   | exact octet_TakeNum.mono _ _
   | exact LeO.none _
   | refine LeO.ite ?_ ?_
   | refine LeO.bind ?_ (fun _ => ?_)
set_option maxHeartbeats 8000000 in
set_option maxRecDepth 100000 in
theorem octet_TakeText.calls (k : Nat) (a0 : ByteArray) (a1 : Int) (r1 : ByteArray) (r2 : ByteArray) (r3 : Int) (w : World) (h : octet_TakeText.f k a0 a1 = some (r1, r2, r3)) :
  Calls Try.prog 66 #[.string a0, .int .i64 a1] w fun e w' => e = .returned (.tuple #[.string r1, .string r2, .int .i64 r3]) ∧ Drawn0 w w' := by
 have H : ((octet_TakeNum.f k a0).bind fun bt101 => (if bt101.2.2 = 0 then (if a1 < 0 then (octet_TakeText.j0 k bt101.1 bt101.2.1 true) else (octet_TakeText.j0 k bt101.1 bt101.2.1 (decide (bt101.1 > (IntKind.u64.wrap (a1)))))) else (some ((⟨#[]⟩ : ByteArray), (⟨#[]⟩ : ByteArray), bt101.2.2)))) = some (r1, r2, r3) := h
 clear h
 replace H := zqn H
 obtain ⟨⟨t101, t102, t103⟩, A30, H⟩ := H
 replace H : (if t103 = 0 then (if a1 < 0 then (octet_TakeText.j0 k t101 t102 true) else (octet_TakeText.j0 k t101 t102 (decide (t101 > (IntKind.u64.wrap (a1)))))) else (some ((⟨#[]⟩ : ByteArray), (⟨#[]⟩ : ByteArray), t103))) = some (r1, r2, r3) := H
 have A3 := zqj A30
 clear A30
 by_cases c4 : t103 = 0
 ·rw [if_pos c4] at H
  have c4b0 : (t103 == 0) = true := beq_iff_eq.mpr c4
  have c4b1 : (t103 != 0) = false := bne_eq_false_iff_eq.mpr c4
  clear c4
  have HC5 := zqj H
  clear H
  go_enter Try.func66, Try.ntmps66
  go_upto_region 4 with (first | (go_at_call 76; (with_reducible refine (octet_TakeNum.calls k a0 t101 t102 t103 _ A3.out).mono ?_); rintro e w' ⟨rfl, ⟨nd, rfl⟩⟩; (try first | exact ⟨rfl, _, World.drewN_drewN _ _ _⟩ | exact ⟨rfl, _, Eq.trans (World.drewN_drewN _ _ _) (congrArg (World.drewN _) (Nat.add_assoc _ _ _))⟩)))
  repeat (go_quiet (first | (go_at_call 76; (with_reducible refine (octet_TakeNum.calls k a0 t101 t102 t103 _ A3.out).mono ?_); rintro e w' ⟨rfl, ⟨nd, rfl⟩⟩; (try first | exact ⟨rfl, _, World.drewN_drewN _ _ _⟩ | exact ⟨rfl, _, Eq.trans (World.drewN_drewN _ _ _) (congrArg (World.drewN _) (Nat.add_assoc _ _ _))⟩))); go_upto_region 4 with (first | (go_at_call 76; (with_reducible refine (octet_TakeNum.calls k a0 t101 t102 t103 _ A3.out).mono ?_); rintro e w' ⟨rfl, ⟨nd, rfl⟩⟩; (try first | exact ⟨rfl, _, World.drewN_drewN _ _ _⟩ | exact ⟨rfl, _, Eq.trans (World.drewN_drewN _ _ _) (congrArg (World.drewN _) (Nat.add_assoc _ _ _))⟩))))
  (try simp only [Act.put, zqk, zql, zqm])
  go_cut [20] (fun v20 wc => ∃ (kq : Nat) (x20_4 : Bool), v20 = .bool x20_4 ∧ Aside0 (octet_TakeText.j0 kq t101 t102 x20_4 = some (r1, r2, r3)) ∧ Aside0 (kq ≤ k) ∧ Drawn0 w wc)
  case first =>
   (have H := HC5.out; clear HC5)
   by_cases c6 : a1 < 0
   ·rw [if_pos c6] at H
    have c6b0 : decide (a1 < 0) = true := decide_eq_true c6
    clear c6
    (first | rw [c6b0] | (simp only [i64_w, i32_w]; rw [c6b0]) | skip)
    have H' := zqj H
    clear H
    go_wp2
    repeat (go_quiet (fail); try go_wp2)
    go_meet
    case rel => exact ⟨_, (true), (by first | rfl | (simp; done) | (simp [*]; done)), H', ⟨by first | omega | exact Nat.le_refl _⟩, by repeat (first | exact Drawn0.refl _ | apply Drawn0.step)⟩
   ·rw [if_neg c6] at H
    have c6b0 : decide (a1 < 0) = false := decide_eq_false c6
    clear c6
    (first | rw [c6b0] | (simp only [i64_w, i32_w]; rw [c6b0]) | skip)
    have H' := zqj H
    clear H
    go_wp2
    repeat (go_quiet (fail); try go_wp2)
    go_meet
    case rel => exact ⟨_, (decide (t101 > (IntKind.u64.wrap (a1)))), (by first | rfl | (simp; done) | (simp [*]; done)), H', ⟨by first | omega | exact Nat.le_refl _⟩, by repeat (first | exact Drawn0.refl _ | apply Drawn0.step)⟩
  case rest =>
   (clear HC5; (try clear p2); (try clear c4); (try clear c4b0); (try clear c4b1); (try clear c6); (try clear c6b0))
   obtain ⟨kq, x20_4, rfl, HA, HJ4, ⟨mc4, rfl⟩⟩ := hcut
   cases kq with
   | zero => exact absurd HA.out (by simp [octet_TakeText.j0])
   | succ kj4 =>
    (have H := HA.out; clear HA)
    simp only [octet_TakeText.j0] at H
    by_cases c7 : x20_4 = true
    ·subst c7
     have H1 : (some ((⟨#[]⟩ : ByteArray), (⟨#[]⟩ : ByteArray), 5)) = some (r1, r2, r3) := by rw [if_pos rfl] at H; exact H
     clear H
     have H := H1
     clear H1
     simp only [Option.some.injEq, Prod.mk.injEq] at H
     obtain ⟨rfl, rfl, rfl⟩ := H
     go_wp2
     repeat (go_quiet (fail); try go_wp2)
     go_ret3
     exact ⟨by first | rfl | (simp; done) | (simp [*]; done), by repeat (first | exact Drawn0.refl _ | apply Drawn0.step)⟩
    ·replace c7 := Bool.eq_false_iff.mpr c7
     subst c7
     have H1 : (if t101 > (IntKind.u64.wrap ((t102.size : Int))) then (some ((⟨#[]⟩ : ByteArray), (⟨#[]⟩ : ByteArray), 2)) else (if 0 ≤ t101 then (if t101 ≤ (t102.size : Int) then (some (t102.extract 0 (t101 : Int).toNat, t102.extract (t101 : Int).toNat t102.size, 0)) else (none)) else (none))) = some (r1, r2, r3) := by rw [if_neg (show ¬ (false = true) by decide)] at H; exact H
     clear H
     have H := H1
     clear H1
     by_cases c8 : t101 > (IntKind.u64.wrap ((t102.size : Int)))
     ·rw [if_pos c8] at H
      have c8b0 : decide ((IntKind.u64.wrap ((t102.size : Int))) < t101) = true := decide_eq_true c8
      clear c8
      simp only [Option.some.injEq, Prod.mk.injEq] at H
      obtain ⟨rfl, rfl, rfl⟩ := H
      go_wp2
      repeat (go_quiet (fail); try go_wp2)
      go_ret3
      exact ⟨by first | rfl | (simp; done) | (simp [*]; done), by repeat (first | exact Drawn0.refl _ | apply Drawn0.step)⟩
     ·rw [if_neg c8] at H
      have c8b0 : decide ((IntKind.u64.wrap ((t102.size : Int))) < t101) = false := decide_eq_false c8
      clear c8
      by_cases c9 : 0 ≤ t101
      ·rw [if_pos c9] at H
       have c9b0 := eq_true c9
       have c9b1 : decide (0 ≤ t101) = true := decide_eq_true c9
       clear c9
       by_cases c10 : t101 ≤ (t102.size : Int)
       ·rw [if_pos c10] at H
        have c10b0 := eq_true c10
        have c10b1 : decide (t101 ≤ (t102.size : Int)) = true := decide_eq_true c10
        clear c10
        have c11b0 := eq_true (zqh (by first | (with_reducible assumption) | assumption) : 0 ≤ t101)
        have c12b0 := eq_true (zqh (by first | (with_reducible assumption) | assumption) : t101 ≤ (t102.size : Int))
        simp only [Option.some.injEq, Prod.mk.injEq] at H
        obtain ⟨rfl, rfl, rfl⟩ := H
        go_wp2
        repeat (go_quiet (fail); try go_wp2)
        go_ret3
        exact ⟨by first | rfl | (simp; done) | (simp [*]; done), by repeat (first | exact Drawn0.refl _ | apply Drawn0.step)⟩
       ·rw [if_neg c10] at H
        exact absurd H (by simp)
      ·rw [if_neg c9] at H
       exact absurd H (by simp)
 ·rw [if_neg c4] at H
  have c4b0 : (t103 == 0) = false := beq_eq_false_iff_ne.mpr c4
  have c4b1 : (t103 != 0) = true := bne_iff_ne.mpr c4
  simp only [Option.some.injEq, Prod.mk.injEq] at H
  obtain ⟨rfl, rfl, rfl⟩ := H
  go_enter Try.func66, Try.ntmps66
  go_wp2_with (first | (go_at_call 76; (with_reducible refine (octet_TakeNum.calls k a0 t101 t102 t103 _ A3.out).mono ?_); rintro e w' ⟨rfl, ⟨nd, rfl⟩⟩; (try first | exact ⟨rfl, _, World.drewN_drewN _ _ _⟩ | exact ⟨rfl, _, Eq.trans (World.drewN_drewN _ _ _) (congrArg (World.drewN _) (Nat.add_assoc _ _ _))⟩)))
  repeat (go_quiet (first | (go_at_call 76; (with_reducible refine (octet_TakeNum.calls k a0 t101 t102 t103 _ A3.out).mono ?_); rintro e w' ⟨rfl, ⟨nd, rfl⟩⟩; (try first | exact ⟨rfl, _, World.drewN_drewN _ _ _⟩ | exact ⟨rfl, _, Eq.trans (World.drewN_drewN _ _ _) (congrArg (World.drewN _) (Nat.add_assoc _ _ _))⟩))); try go_wp2_with (first | (go_at_call 76; (with_reducible refine (octet_TakeNum.calls k a0 t101 t102 t103 _ A3.out).mono ?_); rintro e w' ⟨rfl, ⟨nd, rfl⟩⟩; (try first | exact ⟨rfl, _, World.drewN_drewN _ _ _⟩ | exact ⟨rfl, _, Eq.trans (World.drewN_drewN _ _ _) (congrArg (World.drewN _) (Nat.add_assoc _ _ _))⟩))))
  go_ret3
  exact ⟨by first | rfl | (simp; done) | (simp [*]; done), by repeat (first | exact Drawn0.refl _ | apply Drawn0.step)⟩
def disk_zeros.f (a0 : Int) : Option (ByteArray) := if 0 ≤ a0 then (if (a0 : Int).toNat ≤ 281474976710656 then (some (strOfNums (List.replicate (a0 : Int).toNat 0))) else (none)) else (none)
set_option maxHeartbeats 8000000 in
set_option maxRecDepth 100000 in
theorem disk_zeros.calls (a0 : Int) (r : ByteArray) (w : World) (h : disk_zeros.f a0 = some r) :
  Calls Try.prog 61 #[.int .i64 a0] w fun e w' => e = .returned (.string r) ∧ Below w.heap.size w w' := by
 have HB := zqj (Below.refl w.heap.size w)
 have H : (if 0 ≤ a0 then (if (a0 : Int).toNat ≤ 281474976710656 then (some (strOfNums (List.replicate (a0 : Int).toNat 0))) else (none)) else (none)) = some r := h
 clear h
 by_cases c2 : 0 ≤ a0
 ·rw [if_pos c2] at H
  have c2b0 := eq_true c2
  have c2b1 : decide (0 ≤ a0) = true := decide_eq_true c2
  clear c2
  by_cases c3 : (a0 : Int).toNat ≤ 281474976710656
  ·rw [if_pos c3] at H
   have c3b0 := eq_true c3
   have c3b1 : decide ((a0 : Int).toNat ≤ 281474976710656) = true := decide_eq_true c3
   clear c3
   obtain ⟨y104, hy104⟩ : ∃ y_ : List Int, y_ = (List.replicate (a0 : Int).toNat 0) := ⟨_, rfl⟩
   replace H : (some (strOfNums y104)) = some r := by first | (rw [hy104]; with_reducible exact H) | (have H2_ := (Option.bind_some _ _).symm.trans H; rw [hy104]; with_reducible exact H2_) | (have H2_ := (Option.bind_some _ _).symm.trans H; with_reducible exact H2_) | with_reducible exact H | (rw [hy104]; exact H) | exact H
   have Ny104 := zqj hy104
   clear hy104
   obtain rfl := Option.some.inj H
   go_enter Try.func61, Try.ntmps61
   go_wp2_with (first | ((with_reducible refine gate_dst (N := 4) rfl ?_); refine Kd.R_make (Kd.int .u8) _ 5 rfl (N := 4) rfl 71 _ _ rfl a0 rfl rfl Try.underlying71 (.int .u8 0) 1 info5 rfl (by decide) (by omega) 0 (ok := fun _ => True) (okp := fun _ => True) rfl (fun _ hk => hk) trivial (zqh (by first | (with_reducible assumption) | assumption)) (Nat.le_trans (Nat.mul_le_mul_right _ (zqh (by first | (with_reducible assumption) | assumption) : a0.toNat ≤ 281474976710656)) (by omega)) (Below.refl _ _) (Nat.le_refl _) ?_; intro v105 w4 ho5 hb hg_ hnew_; clear hg_ hnew_; (first | rw [← Ny104.out] at ho5 | (simp only [Int.reduceToNat] at ho5; rw [← Ny104.out] at ho5)); have n0_ := zqj (Kd.R_lower ho5 (below_size (by repeat (first | (with_reducible first | exact HB.out | apply zqg | apply zqe | apply zqf) | exact HB.out)))); have n1_ := zqj (below_step (by repeat (first | (with_reducible first | exact HB.out | apply zqg | apply zqe | apply zqf) | exact HB.out)) hb); clear HB; have HO106 := n0_; have HB := n1_; clear n0_ n1_; clear hb ho5; have hcv6 := own_string (P := Try.prog) Try.underlying71 Try.underlying5 Try.underlying9 (Kd.own_of_R HO106.out)))
   go_ret
   exact ⟨by first | rfl | (simp [errW_none, errW_some] <;> rfl) | (simp [*, errW_none, errW_some] <;> rfl), by repeat (first | (with_reducible first | exact HB.out | apply zqg | apply zqe | apply zqf) | exact HB.out)⟩
  ·rw [if_neg c3] at H
   exact absurd H (by simp)
 ·rw [if_neg c2] at H
  exact absurd H (by simp)
end Go.Proofs.Ytcbfnfggnocndaa.T
end

section
namespace Go.Proofs.Ytcbfnfggnocndaa.Q
open Go.RowKit Go.Shelf Go.Proofs.YtcbfnfggnocndaaW.PrintWords
attribute [local go_sem] Oper.semAt_some
def KeepX (B R : Nat) (W W' : World) : Prop := W.heap.size ≤ W'.heap.size ∧ ∀ b, b < B → b ≠ R → W'.heap[b]? = W.heap[b]?
namespace KeepX
theorem refl (B R : Nat) (W : World) : KeepX B R W W := ⟨Nat.le_refl _, fun _ _ _ => rfl⟩
theorem trans {B R : Nat} {X Y Z : World} (h : KeepX B R X Y) (k : KeepX B R Y Z) : KeepX B R X Z := ⟨Nat.le_trans h.1 k.1, fun b hb hr => (k.2 b hb hr).trans (h.2 b hb hr)⟩
theorem alloc {B R : Nat} (W : World) (o : Obj) (hB : B ≤ W.heap.size) : KeepX B R W (W.alloc o) := ⟨by simp, fun b hb _ => Below.heap_alloc W o b (by omega)⟩
theorem drewN {B R : Nat} (W : World) (n : Nat) : KeepX B R W (W.drewN n) := ⟨Nat.le_refl _, fun _ _ _ => rfl⟩
theorem below {B R : Nat} {W W' : World} (h : Below W.heap.size W W') (hB : B ≤ W.heap.size) : KeepX B R W W' := ⟨h.size, fun b hb _ => h.block b (by omega)⟩
theorem set {B R : Nat} (W : World) (j : Nat) (v : Value) : KeepX B R W (W.setCell ⟨R, j, none⟩ v) := ⟨(Below.setCell (Below.refl 0 W) (Nat.zero_le _) v).size, fun b _ hr => Below.heap_setCell W ⟨R, j, none⟩ v b hr⟩
theorem cell {B R : Nat} {W W' : World} (h : KeepX B R W W') {b o : Nat} (hb : b < B) (hr : b ≠ R) : W'.cell? ⟨b, o, none⟩ = W.cell? ⟨b, o, none⟩ := by
  unfold World.cell?; rw [h.2 b hb hr]
end KeepX
theorem pw_grown_drewN (W : World) (q : Nat) : W.grownBy (W.drewN q) none := grown_of_below (zqe (Below.refl _ W) q) none
theorem KeepX.put {B R : Nat} (W : World) (l : Nat) (o o' : Obj) (hl : B ≤ l) (ho : W.heap[l]? = some o) : KeepX B R W (W.putObj l o') :=
  ⟨(grownBy_putObj' W l o').size, fun b hb _ => (grownBy_putObj' W l o').block b (by have := (Array.getElem?_eq_some_iff.1 ho).1; omega) (fun e => by cases e; omega)⟩
def chosenL {α : Type} (is : Nat → Bool) (qs : List α) : Nat → List α
  | 0 => []
  | k + 1 => if is k then chosenL is qs k ++ (qs[k]?).toList else chosenL is qs k
theorem chosenL_len {α : Type} (is : Nat → Bool) (qs : List α) (k : Nat) : (chosenL is qs k).length ≤ k := by
  induction k with
  | zero => simp [chosenL]
  | succ k ih =>
    have h1 : ((qs[k]?).toList).length ≤ 1 := by cases qs[k]? <;> simp
    show (if is k then chosenL is qs k ++ (qs[k]?).toList else chosenL is qs k).length ≤ k + 1
    split
    · rw [List.length_append]; omega
    · omega
theorem chosenL_map {α β : Type} (f : α → β) (is : Nat → Bool) (qs : List α) (k : Nat) : chosenL is (qs.map f) k = (chosenL is qs k).map f := by
  induction k with
  | zero => rfl
  | succ k ih =>
    show (if is k then chosenL is (qs.map f) k ++ ((qs.map f)[k]?).toList else chosenL is (qs.map f) k) = (if is k then chosenL is qs k ++ (qs[k]?).toList else chosenL is qs k).map f
    rw [ih]
    split
    · rw [List.map_append, List.getElem?_map]; cases qs[k]? <;> rfl
    · rfl
def putV (x : S88) : Value := .agg #[.int .i64 x.f0, .string x.f1]
set_option maxRecDepth 100000 in
set_option maxHeartbeats 1000000 in
theorem chosen1_in {α : Type} (f : α → S88) (qs : List α) (n : Nat) (hn : 1 ≤ n) (l Bd Bf n1 R : Nat) (g : FuncId) (lb : Array Value) (ps : List S88) (hps : ps = qs.map f) (A1 : Option Addr) (c1 : Nat) (is : Nat → Bool) (w0 : World)
    (hn1 : n1 ≤ w0.heap.size) (eg : ∀ args W, (callFunc g args).run Try.prog W = .ok (.enter g args) W) (hlen : ps.length ≤ 140737488355328)
    (hd : ∀ W, KeepX n1 R w0 W → W.cell? ⟨Bd, 1, none⟩ = some (.slice A1 ps.length c1)) (hf : ∀ W, KeepX n1 R w0 W → W.cell? ⟨Bf, 0, none⟩ = some (.func (.func g) #[] lb))
    (hC : ∀ W, KeepX n1 R w0 W → Kd.C k88 W A1 ps.length ps)
    (hIs : ∀ W, KeepX n1 R w0 W → ∀ k : Nat, k < ps.length → Calls Try.prog g (#[.int .i64 k] ++ lb) W fun e w' => e = .returned (.bool (is k)) ∧ Drawn0 W w')
    (J Jx : List α → World → Prop) (W : World) (hW : KeepX n1 R w0 W) (hJ : AbidesFrom W.heap.size J) (hJx : AbidesFrom W.heap.size Jx)
    (hY : ∀ pre x W, J pre W → pre.length < ps.length → YieldAt Fence.wide (n - 1) Try.prog l #[putV (f x)] W fun e W' =>
      (e = .returned (.bool true) ∧ J (pre ++ [x]) W' ∧ KeepX n1 R W W') ∨ (e = .returned (.bool false) ∧ Jx (pre ++ [x]) W')) (h0 : J [] W) :
    CallsIn Fence.wide n Try.prog 81 #[.func (.yield l) #[] #[], .pointer (some ⟨Bd, 0, none⟩), .pointer (some ⟨Bf, 0, none⟩)] W fun e W' => (∃ v, e = .returned v) ∧
      ((∃ ys, ys = chosenL is qs ps.length ∧ J ys W') ∨ (∃ pre, (∃ k, k ≤ ps.length ∧ pre = chosenL is qs k) ∧ Jx pre W')) := by
  have hd0 := hd W hW
  refine callsIn_of_wp Try.func81 rfl trivial ?_ rfl
  simp only [Try.ntmps81, List.size_toArray, List.length_cons, List.length_nil, Nat.reduceAdd, Nat.reduceSub, Array.replicate_succ, Array.replicate_zero, List.push_toArray, List.append_toArray, List.nil_append, List.cons_append]
  gi_wp2
  gi_loopw [9] (fun i wr => ∃ k : Nat, k ≤ ps.length ∧ i = .int .i64 k ∧ J (chosenL is qs k) wr ∧ KeepX n1 R w0 wr)
    (fun i _ => ps.length - (intOf i).toNat)
  case atStart => exact ⟨0, Nat.zero_le _, rfl, h0, hW⟩
  case round =>
    obtain ⟨k, hk, rfl, hJs, hK⟩ := hrel
    by_cases hlt : k < ps.length
    · have hkz : (k : Int) < (ps.length : Int) := by omega
      obtain ⟨ad, rfl, hc0, hc1⟩ := at_T88 (hC wr hK) k (by omega) (by omega)
      rw [Int.toNat_natCast] at hc0 hc1
      have hkq : k < qs.length := by rw [hps, List.length_map] at hlt; exact hlt
      have hrd : rd_T88 ps k = f qs[k] := by
        show ps.getD k _ = _
        rw [hps, List.getD_eq_getElem?_getD, List.getElem?_map, List.getElem?_eq_getElem hkq]; rfl
      rw [hrd] at hc0 hc1
      have hqk : (qs[k]?).toList = [qs[k]] := by rw [List.getElem?_eq_getElem hkq]; rfl
      have HQK := Lib.hid hqk
      clear hqk hrd
      generalize qs[k] = xq at *
      obtain ⟨W1, hW1⟩ : ∃ W1, W1 = wr.alloc (.cells #[.int .i64 (f xq).f0, .string (f xq).f1] 88) := ⟨_, rfl⟩
      have hK1 : KeepX n1 R w0 W1 := by rw [hW1]; exact hK.trans (KeepX.alloc _ _ (by have := hK.1; omega))
      have hf1 := hf W1 hK1
      have hJ1 : J (chosenL is qs k) W1 := by rw [hW1]; exact hJ _ _ _ none hJs (World.grownBy_alloc wr _ none) (fun r e => by cases e)
      have hx1 : W1.cell? ⟨wr.heap.size, 0, none⟩ = some (.int .i64 (f xq).f0) := by rw [hW1]; simp
      have hx2 : W1.cell? ⟨wr.heap.size, 1, none⟩ = some (.string (f xq).f1) := by rw [hW1]; simp
      have hIs1 := hIs W1 hK1 k hlt
      rw [hW1] at hf1
      have HIS := Lib.hid hIs1
      have HW1 := Lib.hid hW1
      clear hIs1 hW1
      have HIs := Lib.hid hIs; have Hd := Lib.hid hd; have Hf := Lib.hid hf; have HC := Lib.hid hC
      clear hIs hd hf hC
      gi_wp2_with fail
      rw [← HW1.out]
      refine ⟨trivial, (callsIn_wide.2 HIS.out).mono ?_⟩
      rintro e w' ⟨rfl, hdr⟩
      obtain ⟨q, rfl⟩ := hdr.out
      have hJ2 : J (chosenL is qs k) (W1.drewN q) := hJ _ _ _ none hJ1 (pw_grown_drewN W1 q) (fun r e => by cases e)
      cases hq : is k with
      | true =>
        obtain ⟨fn, tmps, assign, body, hy, hR⟩ := hY _ xq (W1.drewN q) hJ2 (by have := chosenL_len is qs k; omega)
        unfold putV at hy
        gi_wp2_with fail
        refine hR.mono ?_
        have hch : chosenL is qs (k + 1) = chosenL is qs k ++ [xq] := by show (if is k then _ else _) = _; rw [hq, ← HQK.out]; rfl
        have HCH := Lib.hid hch
        clear hch hq
        rintro e W3 (⟨rfl, hJ3, hk3⟩ | ⟨rfl, hJx3⟩)
        · gi_wp2_with fail
          go_roundw
          case rel => exact ⟨k + 1, by omega, by go_num, by rw [HCH.out]; exact hJ3, (hK1.trans (KeepX.drewN _ _)).trans hk3⟩
          case measure => simp [intOf]; omega
        · gi_wp2_with fail
          refine bodyPost_ret (results_none rfl _ _ _) rfl ?_
          exact ⟨⟨_, rfl⟩, .inr ⟨_, ⟨k + 1, by omega, HCH.out.symm⟩, hJx3⟩⟩
      | false =>
        gi_wp2_with fail
        refine ⟨fun _ h => (by cases h), ?_⟩
        gi_wp2_with fail
        go_roundw
        case rel => exact ⟨k + 1, by omega, by go_num, by show J (if is k then _ else _) _; rw [hq]; exact hJ2, hK1.trans (KeepX.drewN _ _)⟩
        case measure => simp [intOf]; omega
    · obtain rfl : k = ps.length := by omega
      gi_wp2
      go_end0
      exact ⟨⟨_, rfl⟩, .inl ⟨_, rfl, hJs⟩⟩
end Go.Proofs.Ytcbfnfggnocndaa.Q
end

section
namespace Go.Proofs.Ytcbfnfggnocndaa.Q
open Go.RowKit Go.Shelf Go.Proofs.YtcbfnfggnocndaaW.PrintWords
attribute [local go_sem] Oper.semAt_some
def imgL (l : List ByteArray) (ps : List S88) : List ByteArray := ps.foldl (fun l p => l.set p.f0.toNat p.f1) l
theorem imgL_len (ps : List S88) : ∀ l : List ByteArray, (imgL l ps).length = l.length := by
 induction ps with
 | nil => intro l; rfl
 | cons p ps ih => intro l; show (imgL (l.set _ _) ps).length = _; rw [ih]; simp
theorem imgL_snoc (l : List ByteArray) (ps : List S88) (x : S88) : imgL l (ps ++ [x]) = (imgL l ps).set x.f0.toNat x.f1 := by simp [imgL]
def doneL (l0 : List ByteArray) (ps : List S88) (is : Nat → Bool) : List ByteArray := imgL l0 (chosenL is ps ps.length)
theorem kPut_heap : Kd.Heap k88 := Kd.heap_iso _ (Kd.heap_pair (Kd.heap_int .i64) Kd.heap_string)
abbrev PutIn (N : Nat) : Type := { x : S88 // 0 ≤ x.f0 ∧ x.f0 < (N : Int) }
theorem ownFrom_heap {β : Type} (B b : Nat) (t : TypeId) (f : β → Array Value) : OwnFrom B (fun s W => W.heap[b]? = some (.cells (f s) t (0, 0))) := fun s X Y row hs hg hrow =>
 blk_grown hs hg (fun e' => by obtain ⟨_, o, ho, hc⟩ := hrow b e'.symm; rw [hs] at ho; cases ho; cases hc)
set_option maxHeartbeats 1000000 in
theorem chosen_calls (d fv : Value) (a b c : Value) (hd : d = .agg #[a, b, c]) (ha : a.oneCell' = true) (hb : b.oneCell' = true) (hc : c.oneCell' = true) (hf : fv.oneCell' = true) (w : World) :
  Calls Try.prog 77 #[d, fv] w fun e w' => e = .returned (.func (.func 81) #[] #[.pointer (some ⟨w.heap.size, 0, none⟩), .pointer (some ⟨w.heap.size + 1, 0, none⟩)]) ∧
   w' = (w.alloc (.cells #[a, b, c] 25)).alloc (.cells #[fv] 110) := by
 subst hd
 go_enter Try.func77, Try.ntmps77
 go_wp2
 go_ret
 exact ⟨rfl, rfl⟩
theorem info_str : (Try.prog.info? 9).map (fun i => (i.zero, i.size, i.bytes)) = some (some (.string ⟨#[]⟩), 1, 16) := by kernel_rfl
theorem info_str1 : (Try.prog.info? 9).map (·.size) = some 1 := by kernel_rfl
set_option maxRecDepth 100000 in
set_option maxHeartbeats 4000000 in
theorem done_calls (l0 : List ByteArray) (ps : List S88) (A0 A1 : Option Addr) (c0 c1 : Nat) (off : Bool) (g : FuncId) (lb : Array Value) (is : Nat → Bool) (w : World) (hn : 0 < l0.length) (hn2 : l0.length ≤ 1000000000) (hlen : ps.length ≤ 1000000000)
  (hr0 : Kd.C Kd.string w A0 l0.length l0) (hr1 : Kd.C k88 w A1 ps.length ps) (hAt : ∀ p ∈ ps, 0 ≤ p.f0 ∧ p.f0 < l0.length)
  (eg : ∀ args W, (callFunc g args).run Try.prog W = .ok (.enter g args) W)
  (hIs : ∀ W, KeepX w.heap.size w.heap.size w W → ∀ k : Nat, k < ps.length → Calls Try.prog g (#[.int .i64 k] ++ lb) W fun e w' => e = .returned (.bool (is k)) ∧ Drawn0 W w') :
  Calls Try.prog 67 #[.agg #[.slice A0 l0.length c0, .slice A1 ps.length c1, .bool off], .func (.func g) #[] lb] w fun e w' =>
   ∃ v, e = .returned v ∧ Kd.R Kd.string 9 w' w.heap.size (fun _ => True) v (doneL l0 ps is) ∧ Below w.heap.size w w' := by
 obtain ⟨W1, hW1⟩ : ∃ W1, W1 = w.alloc (.cells #[.slice A0 l0.length c0, .slice A1 ps.length c1, .bool off] 25) := ⟨_, rfl⟩
 have hmk := print_make_of (P := Try.prog) 22 9 (.string ⟨#[]⟩) 16 Try.underlying22 info_str rfl (by decide) l0.length (by omega)
 obtain ⟨W3, hW3⟩ : ∃ W3, W3 = (W1.alloc (.cells (madeCells #[.string ⟨#[]⟩] l0.length) 9)).alloc (.cells #[.slice (some ⟨w.heap.size + 1, 0, none⟩) l0.length l0.length] 22) := ⟨_, rfl⟩
 obtain ⟨ad, rfl⟩ : ∃ ad, A0 = some ad := by obtain ⟨ad, h, _⟩ := Kd.at_string hr0 0 (by omega) (by omega); exact ⟨ad, h⟩
 have z1 : W1.heap.size = w.heap.size + 1 := by rw [hW1]; simp
 have z3 : W3.heap.size = w.heap.size + 3 := by rw [hW3]; simp [z1]
 have hB3 : Below w.heap.size w W3 := by
  rw [hW3, hW1]
  exact (((Below.refl _ w).alloc (Nat.le_refl _) _).alloc (by simp) _).alloc (by simp; omega) _
 have hrow3 : W3.heap[w.heap.size + 1]? = some (.cells (madeCells #[.string ⟨#[]⟩] l0.length) 9 (0, 0)) := by
  rw [hW3, ← z1]; exact (heap_alloc_old _ _ (by simp)).trans (heap_alloc_new _ _)
 obtain ⟨W4, hW4⟩ : ∃ W4, W4 = W3.setCells (w.heap.size + 1) 0 (l0.map Value.string) := ⟨_, rfl⟩
 have hcp : (Builtin.copy_ #[22, 22] 3 #[.slice (some ⟨w.heap.size + 1, 0, none⟩) l0.length l0.length, .slice (some ad) l0.length c0]).run Try.prog W3 = .ok (.int .i64 l0.length) W4 := by
  have h3 := Kd.C_below hr0 hB3
  have h := run_copy_cells (P := Try.prog) W3 22 22 3 9 (w.heap.size + 1) 0 l0.length l0.length ad l0.length c0 (l0.map Value.string) Try.underlying22 info_str1 (by simp [Nat.min_def])
   (fun j v hj => by
    rw [List.getElem?_map] at hj
    cases hjj : l0[j]? with
    | none => rw [hjj] at hj; cases hj
    | some x =>
     rw [hjj] at hj
     obtain rfl : Value.string x = v := by simpa using hj
     obtain ⟨hl, hx⟩ := List.getElem?_eq_some_iff.1 hjj
     obtain ⟨ad', he, hc⟩ := Kd.at_string h3 (j : Int) (by omega) (by omega)
     obtain rfl : ad = ad' := Option.some.inj he
     rw [Int.toNat_natCast] at hc
     rw [hc, rdOf, Int.toNat_natCast, List.getD_eq_getElem?_getD, hjj]; rfl)
   (fun j hj => by rw [blk_cell hrow3, Array.getElem?_eq_getElem (by rw [size_madeCells]; simpa using hj)]; rfl)
   (fun j hj => zqi hrow3 _) (fun v hv => by obtain ⟨x, _, rfl⟩ := List.mem_map.1 hv; rfl)
  rw [List.length_map] at h
  rw [hW4]
  exact h
 have HR0 := Lib.hid hr0; have HR1 := Lib.hid hr1; have HAT := Lib.hid hAt; have HIS := Lib.hid hIs
 clear hr0 hr1 hAt hIs
 -- what W4 holds
 have z4 : W4.heap.size = w.heap.size + 3 := by rw [hW4]; exact (setCells_same _ _ _ _).2.2.2.trans z3
 have hB4 : Below w.heap.size w W4 := by
  have hs := setCells_same (w.heap.size + 1) (l0.map Value.string) 0 W3
  refine ⟨?_, ?_, ?_, by omega, fun k hk => ?_⟩
  ·rw [hW4, hs.1]; exact hB3.os
  ·rw [hW4, hs.2.1]; exact hB3.tape
  ·rw [hW4, hs.2.2.1]; exact hB3.output
  ·rw [hW4, setCells_far _ _ _ (by omega)]; exact hB3.block k hk
 have hd4 : W4.heap[w.heap.size]? = some (.cells #[.slice (some ad) l0.length c0, .slice A1 ps.length c1, .bool off] 25 (0, 0)) := by
  rw [hW4, setCells_far _ _ _ (by omega), hW3]
  refine (heap_alloc_old _ _ (by simp; omega)).trans ((heap_alloc_old _ _ (by omega)).trans ?_)
  rw [hW1]; exact heap_alloc_new _ _
 have ho4 : Boxed W4 (w.heap.size + 1 + 1) 22 (.slice (some ⟨w.heap.size + 1, 0, none⟩) l0.length l0.length) := by
  show W4.heap[w.heap.size + 1 + 1]? = _
  rw [hW4, setCells_far _ _ _ (by omega), hW3]
  have h := heap_alloc_new (W1.alloc (.cells (madeCells #[.string ⟨#[]⟩] l0.length) 9)) (.cells #[.slice (some ⟨w.heap.size + 1, 0, none⟩) l0.length l0.length] 22)
  rw [show (W1.alloc (.cells (madeCells #[.string ⟨#[]⟩] l0.length) 9)).heap.size = w.heap.size + 1 + 1 by simp [z1]] at h
  exact h
 have hrow4 : W4.heap[w.heap.size + 1]? = some (.cells (l0.map Value.string).toArray 9 (0, 0)) := by
  rw [hW4]
  obtain ⟨cur, h1, h2, h3⟩ := setCells_row (l0.map Value.string) 0 W3 _ hrow3 (by rw [size_madeCells]; simp)
  rw [h1]
  congr 2
  apply Array.toList_inj.1
  rw [h3, List.take_zero, List.nil_append, List.drop_of_length_le (by simp [size_madeCells]), List.append_nil]
 rw [hW3, hW1] at hcp
 have HW1 := Lib.hid hW1; have HW3 := Lib.hid hW3; have HW4 := Lib.hid hW4; have HROW3 := Lib.hid hrow3; have HB3 := Lib.hid hB3
 clear hW1 hW3 hW4 hrow3 hB3 z3 z1
 have e0 := blk_cell hd4 0; have e1 := blk_cell hd4 1; have e2 := blk_cell hd4 2
 simp only [List.getElem?_toArray, List.getElem?_cons_zero, List.getElem?_cons_succ] at e0 e1 e2
 have HD4 := Lib.hid hd4; have HO4 := Lib.hid ho4; have HROW4 := Lib.hid hrow4; have HB4 := Lib.hid hB4; have HZ4 := Lib.hid z4
 clear hd4 ho4 hrow4 hB4
 refine (callsIn_wide (n := 6)).1 ?_
 refine callsIn_of_wp_marks Try.func67 rfl trivial ?_ rfl
 simp only [Try.ntmps67, List.size_toArray, List.length_cons, List.length_nil, Nat.reduceAdd, Nat.reduceSub, Array.replicate_succ, Array.replicate_zero, List.push_toArray, List.append_toArray, List.nil_append, List.cons_append]
 gi_wp2_with fail
 refine ⟨trivial, (callsIn_wide.2 (chosen_calls _ _ _ _ _ rfl rfl rfl rfl rfl W4)).mono ?_⟩
 rintro e w5 ⟨rfl, hw5⟩
 have z5 : w5.heap.size = w.heap.size + 5 := by rw [hw5]; simp [z4]
 have k5 : KeepX W4.heap.size (w.heap.size + 1) W4 w5 := by rw [hw5]; exact (KeepX.alloc _ _ (Nat.le_refl _)).trans (KeepX.alloc _ _ (by simp))
 have hB5 : Below w.heap.size w w5 := by rw [hw5]; exact (HB4.out.alloc HB4.out.size _).alloc (by have := HB4.out.size; simp; omega) _
 have hr5 : w5.heap[w.heap.size + 1]? = some (.cells (l0.map Value.string).toArray 9 (0, 0)) := by
  rw [hw5]; exact (heap_alloc_old _ _ (by simp only [World.size_alloc]; omega)).trans ((heap_alloc_old _ _ (by omega)).trans HROW4.out)
 have ho5 : Boxed w5 (w.heap.size + 1 + 1) 22 (.slice (some ⟨w.heap.size + 1, 0, none⟩) l0.length l0.length) := by
  rw [hw5]; exact (HO4.out.alloc _).alloc _
 have hd5 : w5.heap[W4.heap.size]? = some (.cells #[.slice (some ad) l0.length c0, .slice A1 ps.length c1, .bool off] 25 (0, 0)) := by
  rw [hw5]; exact (heap_alloc_old _ _ (by simp)).trans (heap_alloc_new _ _)
 have hf5 : w5.heap[W4.heap.size + 1]? = some (.cells #[.func (.func g) #[] lb] 110 (0, 0)) := by
  rw [hw5]
  have h := heap_alloc_new (W4.alloc (.cells #[.slice (some ad) l0.length c0, .slice A1 ps.length c1, .bool off] 25)) (.cells #[.func (.func g) #[] lb] 110)
  rw [show (W4.alloc (.cells #[.slice (some ad) l0.length c0, .slice A1 ps.length c1, .bool off] 25)).heap.size = W4.heap.size + 1 by simp] at h
  exact h
 obtain ⟨qs, hqs⟩ : ∃ qs : List (PutIn l0.length), ps = qs.map (·.1) := ⟨ps.attach.map fun x => ⟨x.1, HAT.out x.1 x.2⟩, by
  rw [List.map_map]
  exact (List.attach_map_subtype_val ps).symm⟩
 have hkk : ∀ W, KeepX w5.heap.size (w.heap.size + 1) w5 W → KeepX w.heap.size w.heap.size w W := fun W hW =>
  ⟨Nat.le_trans hB5.size hW.1, fun b hb _ => (hW.2 b (by omega) (by omega)).trans (hB5.block b hb)⟩
 have hCC : ∀ W, KeepX w5.heap.size (w.heap.size + 1) w5 W → Kd.C k88 W A1 ps.length ps := fun W hW =>
  Kd.F_now (Kd.F_step (Kd.C_F kPut_heap HR1.out) (fun k hk _ => (hkk W hW).2 k hk (by omega)))
 have HR5 := Lib.hid hr5; have HO5 := Lib.hid ho5; have HB5 := Lib.hid hB5
 clear hr5 ho5 hB5
 have HK5 := Lib.hid k5; have HD5 := Lib.hid hd5; have HF5 := Lib.hid hf5; have HKK := Lib.hid hkk; have HCC := Lib.hid hCC; have HQS := Lib.hid hqs; have HW5 := Lib.hid hw5
 rw [z4] at hd5 hf5
 clear HD5 HF5
 have HD5 := Lib.hid hd5; have HF5 := Lib.hid hf5
 clear k5 hd5 hf5 hkk hCC hqs hw5 e0 e1 e2 hcp
 gi_wp2_with fail
 refine wpIn_rangeFunc_ownH rfl (by omega) (gf := 81) (lb := #[.pointer (some ⟨w.heap.size + 3, 0, none⟩), .pointer (some ⟨w.heap.size + 3 + 1, 0, none⟩)]) rfl trivial (enters_of Try.func81 (by kernel_rfl) rfl)
  (encs := fun x : PutIn l0.length => #[.agg #[.int .i64 x.1.f0, .string x.1.f1]]) (Kp := KeepX w5.heap.size (w.heap.size + 1)) (S := fun ys => ys = chosenL is qs ps.length) (Sp := fun pre => ∃ k, k ≤ ps.length ∧ pre = chosenL is qs k) (N := ps.length) (w0 := w5)
  (fun l J Jx W hW hJ hJx hY h0 => chosen1_in (fun x : PutIn l0.length => x.1) qs 5 (by omega) l (w.heap.size + 3) (w.heap.size + 3 + 1) w5.heap.size (w.heap.size + 1) g lb ps HQS.out A1 c1 is w5 (Nat.le_refl _) eg (by omega)
   (fun W hW => by rw [hW.cell (by omega) (by omega), blk_cell HD5.out]; rfl) (fun W hW => by rw [hW.cell (by omega) (by omega), blk_cell HF5.out]; rfl) HCC.out
   (fun W hW k hk => HIS.out W (HKK.out W hW) k hk) J Jx W (KeepX.below hW (Nat.le_refl _)) hJ hJx hY h0)
  (fun h k => KeepX.trans h k) (fun W l o o' hl ho _ _ => KeepX.put W l o o' hl ho) (Below.refl _ _) (fun _ => rfl)
  (fun pre W => W.heap[w.heap.size + 1]? = some (.cells ((imgL l0 (pre.map (·.1))).map Value.string).toArray 9 (0, 0)) ∧ (Boxed W (w.heap.size + 1 + 1) 22 (.slice (some ⟨w.heap.size + 1, 0, none⟩) l0.length l0.length) ∧ (Below w.heap.size w W ∧ w5.heap.size ≤ W.heap.size)))
  (fun _ _ _ => False)
  (OwnFrom.and (ownFrom_heap _ _ _ (fun (pre : List (PutIn l0.length)) => ((imgL l0 (pre.map (·.1))).map Value.string).toArray)) (OwnFrom.and (Own.from (boxed_own _ _ (fun _ => _)) _) (OwnFrom.and (ownFrom_below (Nat.le_refl _) (by omega)) (fun _ _ _ _ hs hg _ => Nat.le_trans hs hg.size))))
  (fun _ _ _ _ _ hs _ _ => hs)
  ⟨HR5.out, HO5.out, HB5.out, Nat.le_refl _⟩
  (fun x a' W => ∃ Bx, w5.heap.size ≤ Bx ∧ W.heap[Bx]? = some (.cells #[.int .i64 x.1.f0, .string x.1.f1] 88 (0, 0)) ∧ a' = { tmps := #[.agg #[.slice (some ad) l0.length c0, .slice A1 ps.length c1, .bool off], .func (.func g) #[] lb, .pointer (some ⟨w.heap.size, 0, none⟩), undef, .slice none 0 0, .pointer (some ⟨w.heap.size + 1 + 1, 0, none⟩), .pointer (some ⟨Bx, 0, none⟩), .pointer (some ⟨w.heap.size, 0, none⟩), .slice (some ad) l0.length c0, .int .i64 l0.length, .slice (some ⟨w.heap.size + 1, 0, none⟩) l0.length l0.length, .slice (some ⟨w.heap.size + 1, 0, none⟩) l0.length l0.length, .pointer (some ⟨w.heap.size, 0, none⟩), .slice (some ad) l0.length c0, .int .i64 l0.length, .agg #[.slice (some ad) l0.length c0, .slice A1 ps.length c1, .bool off], .func (.func g) #[] lb, .func (.func 81) #[] #[.pointer (some ⟨w.heap.size + 3, 0, none⟩), .pointer (some ⟨w.heap.size + 3 + 1, 0, none⟩)], .agg #[.int .i64 x.1.f0, .string x.1.f1], undef, undef, undef, undef, undef, undef, undef], defers := [] })
  (fun x a' _ X Y row hs hg hrow => by obtain ⟨Bx, h1, h2, h3⟩ := hs; exact ⟨Bx, h1, ownFrom_heap w5.heap.size Bx _ (fun _ : Unit => _) () X Y row h2 hg hrow, h3⟩) ?assign ?body ?done ?stop
 case assign =>
  rintro l pre x W K hi hK
  gi_wp2_with fail
  exact hK _ _ ((KeepsOthers.alloc _ _).from _) (KeepX.alloc _ _ hi.2.2.2) ⟨(heap_alloc_old _ _ (blk_lt hi.1)).trans hi.1, hi.2.1.alloc _, hi.2.2.1.alloc hi.2.2.1.size _, by have := hi.2.2.2; simp; omega⟩ ⟨W.heap.size, hi.2.2.2, heap_alloc_new _ _, rfl⟩
 case body =>
  rintro l pre x a' W hl hr ⟨hrow, hbox, hB, hsz⟩ ⟨Bx, hBx, hx, rfl⟩ hlt
  have hc := hbox.cell
  have x0 := blk_cell hx 0; have x1 := blk_cell hx 1
  simp only [List.getElem?_toArray, List.getElem?_cons_zero, List.getElem?_cons_succ] at x0 x1
  have hi0 : (0 : Int) ≤ x.1.f0 := x.2.1
  have hi1 : x.1.f0 < (l0.length : Int) := x.2.2
  have hlen2 : (imgL l0 (pre.map (·.1))).length = l0.length := imgL_len _ _
  obtain ⟨v, hv⟩ : ∃ v, W.cell? ⟨w.heap.size + 1, x.1.f0.toNat, none⟩ = some v := by
   rw [blk_cell hrow]
   exact ⟨_, Array.getElem?_eq_getElem (by rw [List.size_toArray, List.length_map, hlen2]; omega)⟩
  have hfz := zqi hrow x.1.f0.toNat
  have HROW := Lib.hid hrow; have HBOX := Lib.hid hbox; have HB := Lib.hid hB; have HL2 := Lib.hid hlen2; have HX := Lib.hid hx
  clear hrow hbox hB hlen2 hx
  gi_wp2_with fail
  refine ⟨(KeepsOthers.setCell _ _ _).from _, KeepX.set _ _ _, ?_, blk_far HBOX.out (by simp) _, HB.out.setCell (p := ⟨w.heap.size + 1, x.1.f0.toNat, none⟩) (by simp) _, by simpa using hsz⟩
  rw [blk_set HROW.out, List.map_append, List.map_cons, List.map_nil, imgL_snoc, List.map_set, zqk]
 case done =>
  rintro D ys W hD rfl ⟨hrow, hbox, hB, hsz⟩ hK
  have hc := hbox.cell
  gi_wp2
  refine ⟨by simp, .inl ⟨_, _, rfl, run_takeDeferred hK, ?_⟩⟩
  have he : (imgL l0 ((chosenL is qs ps.length).map (·.1))) = doneL l0 ps is := by
   unfold doneL
   rw [← chosenL_map, ← HQS.out]
  have hlen3 : (doneL l0 ps is).length = l0.length := imgL_len _ _
  refine ⟨_, results_tmp rfl _ _ _, _, rfl, Kd.R_of_own ?_ (fun _ _ => trivial), hB.trans (belowK_b (w := w) (Nat.le_refl _) W D _ _ (by omega) hK rfl rfl)⟩
  refine ownsRow_putObj ?_ _ hK rfl
  rw [he] at hrow
  rw [hlen3]
  exact ⟨by simp [encs, hlen3], .inr ⟨_, _, _, rfl, by omega, hrow, Nat.le_refl _, by unfold maxLen; omega, by simp [hlen3], by rw [Nat.mul_one, List.toList_toArray, List.take_of_length_le (by simp [hlen3])]; rfl⟩⟩
 case stop =>
  rintro D c pre W _ _ h _
  exact h.elim
def DiskOk (l0 : List ByteArray) (ps : List S88) : Prop := 0 < l0.length ∧ l0.length ≤ 1000000000 ∧ ps.length ≤ 1000000000 ∧ ∀ p ∈ ps, 0 ≤ p.f0 ∧ p.f0 < (l0.length : Int)
instance (l0 : List ByteArray) (ps : List S88) : Decidable (DiskOk l0 ps) := by unfold DiskOk; exact inferInstance
def disk_Image.f (l0_0 : List ByteArray) (l0_1 : List S88) (a0_2 : Bool) : Option (List ByteArray) := if DiskOk l0_0 l0_1 then some (doneL l0_0 l0_1 fun _ => true) else none
set_option maxHeartbeats 1000000 in
theorem image1_calls (k : Nat) (w : World) : Calls Try.prog 68 (#[.int .i64 k] ++ #[]) w fun e w' => e = .returned (.bool true) ∧ Drawn0 w w' := by
 go_enter Try.func68, Try.ntmps68
 go_wp2
 go_ret
 exact ⟨rfl, Drawn0.refl _⟩
set_option maxHeartbeats 1000000 in
theorem disk_Image.calls (A0_0 : Option Addr) (c0_0 : Nat) (l0_0 : List ByteArray) (A0_1 : Option Addr) (c0_1 : Nat) (l0_1 : List S88) (a0_2 : Bool) (r : List ByteArray) (w : World) (hr0_0 : Kd.C Kd.string w A0_0 l0_0.length l0_0) (hc0_0 : l0_0.length ≤ c0_0) (hr0_1 : Kd.C k88 w A0_1 l0_1.length l0_1) (hc0_1 : l0_1.length ≤ c0_1) (h : disk_Image.f l0_0 l0_1 a0_2 = some r) :
  Calls Try.prog 56 #[.agg #[.slice A0_0 l0_0.length c0_0, .slice A0_1 l0_1.length c0_1, .bool a0_2]] w fun e w' => ∃ v0_ : Value, e = .returned (v0_) ∧ Kd.R Kd.string 9 w' w.heap.size (fun _ => True) v0_ r ∧ Below w.heap.size w w' := by
 unfold disk_Image.f at h
 split at h
 ·rename_i hh
  obtain rfl := Option.some.inj h
  clear h
  have HC := Lib.hid (fun W' (hb : Below w.heap.size w W') => done_calls l0_0 l0_1 A0_0 A0_1 c0_0 c0_1 a0_2 68 #[] (fun _ => true) W' hh.1 hh.2.1 hh.2.2.1 (Kd.C_below hr0_0 hb) (Kd.C_below hr0_1 hb) hh.2.2.2 (enters_of Try.func68 (by kernel_rfl) rfl) (fun W _ k _ => image1_calls k W))
  clear hr0_0 hr0_1 hh
  go_enter Try.func56, Try.ntmps56
  go_wp2_with fail
  refine (HC.out _ ((Below.refl _ _).alloc (Nat.le_refl _) _)).mono ?_
  rintro e w' ⟨v, rfl, hR, hB⟩
  obtain ⟨A, c, rfl⟩ := Kd.R_slice hR
  have HR := Lib.hid hR; have HB := Lib.hid hB
  clear hR hB
  go_wp2_with fail
  go_ret
  exact ⟨_, rfl, Kd.R_lower HR.out (by simp), (Below.refl _ _).trans (((Below.refl _ _).alloc (Nat.le_refl _) _).trans (HB.out.mono (by simp)))⟩
 ·cases h
def keptAt (keep : List Bool) (i : Nat) : Bool := keep.getD i false
end Go.Proofs.Ytcbfnfggnocndaa.Q
end

section
namespace Go.Proofs.Ytcbfnfggnocndaa.Math
open Go.RowKit
theorem tl (s : ByteArray) : s.toList = s.data.toList := ByteArray.toList_eq s
theorem sz (s : ByteArray) : s.size = s.data.toList.length := by rw [Array.length_toList]; rfl
theorem app (a b : ByteArray) : (a ++ b).data.toList = a.data.toList ++ b.data.toList := by rw [ByteArray.data_append, Array.toList_append]
theorem app_size (a b : ByteArray) : (a ++ b).size = a.size + b.size := by rw [sz, app, List.length_append, ← sz, ← sz]
theorem ext_ (s : ByteArray) (a b : Nat) : (s.extract a b).data.toList = (s.data.toList.take b).drop a := by
  rw [ByteArray.data_extract, Array.toList_extract, List.extract_eq_take_drop, List.drop_take]
theorem inj {a b : ByteArray} (h : a.data.toList = b.data.toList) : a = b := WideShapes.bytes_inj h
theorem nums_dl (xs : List Int) : (strOfNums xs).data.toList = xs.map fun n => UInt8.ofNat n.toNat := rfl
theorem nums_size (xs : List Int) : (strOfNums xs).size = xs.length := strOfNums_size xs
theorem w64 {n : Int} (h0 : -9223372036854775808 ≤ n) (h1 : n ≤ 9223372036854775807) : wrap64 n = n := by unfold wrap64; omega
theorem lit64 {n : Int} (h : (Lit.int .i64 n).wf = true) : -9223372036854775808 ≤ n ∧ n ≤ 9223372036854775807 := by
  simp [Lit.wf, IntKind.min, IntKind.max, IntKind.signed, IntKind.bits] at h; omega
theorem litu64 {n : Int} (h : (Lit.int .u64 n).wf = true) : 0 ≤ n ∧ n < 18446744073709551616 := by
  simp [Lit.wf, IntKind.min, IntKind.max, IntKind.signed, IntKind.bits] at h; omega
theorem bs {α β : Type} {o : Option α} {a : α} {g : α → Option β} (h : o = some a) : o.bind g = g a := by rw [h]; rfl
end Go.Proofs.Ytcbfnfggnocndaa.Math
end
