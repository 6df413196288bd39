import Derived.Test.YtgnmhbkialgeaaaProg
import Derived.Below
import Derived.Deep.Draws
import Derived.Deep.AppendLies
import Derived.Maps.AppendAt
import Derived.OwnWalk
import Derived.Laws.BytesArg
import Derived.Laws.MakeOwn
import Derived.Laws.OwnMore
import Derived.Deep.OwnRows
import Derived.Tactics
import Derived.Lib.ConvBytes
import Derived.Laws.Slices
import Derived.WalkKit
import Derived.KernelRfl
import Derived.RowKit3
import Derived.Deep.LoopGhost
import Derived.Deep.QuietTactic
import Derived.BigQuiet
import Derived.WideLaws
import Derived.Deep.DeepCutAuto
import Derived.Deep.CutBlock
import Derived.Deep.RegionHeld3
import Derived.Laws.Rows
import Derived.Lib.AppendStr
import Derived.ArgAppend
import Derived.Laws.IdiomCopy
import Derived.OrdersHeld
import Derived.Laws.BitsLemmas
import Derived.RowKit
import Derived.Test.YtgnmhbkialgeaaaZOne1
import Derived.Test.YtgnmhbkialgeaaaZOne0
import Derived.Test.YtgnmhbkialgeaaaZOne2
import Derived.Test.YtgnmhbkialgeaaaZOne3
import Derived.Test.YtgnmhbkialgeaaaZOne4
import Derived.Test.YtgnmhbkialgeaaaZOne5
import Derived.Test.YtgnmhbkialgeaaaZOne6
import Derived.Test.YtgnmhbkialgeaaaZOne7
import Derived.Test.YtgnmhbkialgeaaaZOne8
import Derived.Test.YtgnmhbkialgeaaaZOne9
import Derived.Test.YtgnmhbkialgeaaaZOne10
import Derived.Test.YtgnmhbkialgeaaaZOne11
import Derived.Test.YtgnmhbkialgeaaaZOne12
import Derived.Test.YtgnmhbkialgeaaaZOne13
import Derived.Test.YtgnmhbkialgeaaaZOne14
import Derived.Test.YtgnmhbkialgeaaaZOne15
import Derived.Test.YtgnmhbkialgeaaaZOne16
import Derived.Test.YtgnmhbkialgeaaaZOne17
import Derived.Test.YtgnmhbkialgeaaaZOne18
import Derived.Test.YtgnmhbkialgeaaaZOne19
import Derived.Test.YtgnmhbkialgeaaaZOne20
import Derived.Test.YtgnmhbkialgeaaaZOne21
import Derived.OneCell
import Derived.Laws.EntriesVeiled
import Derived.Shelf.Strings.Builder1
import Derived.Shelf.Strings.BuilderF
import Derived.Shelf.Strings.BuilderK
import Derived.Deep.MidRow
set_option linter.unusedVariables false
set_option linter.unusedSimpArgs false
section
namespace Go.Proofs.Ytgnmhbkialgeaaa.T
open Go.RowKit Go.Proofs.YtgnmhbkialgeaaaW.PrintWords Go.Proofs.YtgnmhbkialgeaaaW.PrintLast Go.Proofs.YtgnmhbkialgeaaaW.PrintMore
attribute [local go_sem] max2_int min2_int max_two min_two max_three min_three max_four min_four   -- for this text's walks alone
attribute [local go_sem high] Go.Proofs.Ytgnmhbkialgeaaa.px_xor_u8 Go.Proofs.Ytgnmhbkialgeaaa.px_xor_u16 Go.Proofs.Ytgnmhbkialgeaaa.px_xor_u32 Go.Proofs.Ytgnmhbkialgeaaa.px_xor_u64
def errW : Option Int → Value
  | none => .nilIface
  | some c => .iface 0 (.int .i64 c)
theorem errW_none : errW none = .nilIface := rfl
theorem errW_some (c : Int) : errW (some c) = .iface 0 (.int .i64 c) := rfl
end Go.Proofs.Ytgnmhbkialgeaaa.T
end

section
namespace Go.Proofs.Ytgnmhbkialgeaaa.T
open Go.RowKit Go.Proofs.YtgnmhbkialgeaaaW.PrintWords Go.Proofs.YtgnmhbkialgeaaaW.PrintLast Go.Proofs.YtgnmhbkialgeaaaW.PrintMore
attribute [local go_sem] max2_int min2_int max_two min_two max_three min_three max_four min_four   -- for this text's walks alone
attribute [local go_sem high] Go.Proofs.Ytgnmhbkialgeaaa.px_xor_u8 Go.Proofs.Ytgnmhbkialgeaaa.px_xor_u16 Go.Proofs.Ytgnmhbkialgeaaa.px_xor_u32 Go.Proofs.Ytgnmhbkialgeaaa.px_xor_u64
mutual
def octet_TakeNum.l0 : Nat → ByteArray → Int → Int → Option (Int × ByteArray × Int)
 | 0, _, _, _ => none
 | k + 1, x0, x5, x6 => if x6 < (x0.size : Int) then (octet_TakeNum.j1 k x0 x5 x6 (decide (x6 < 10))) else (octet_TakeNum.j1 k x0 x5 x6 false)
def octet_TakeNum.j1 : Nat → ByteArray → Int → Int → Bool → Option (Int × ByteArray × Int)
 | 0, _, _, _, _ => none
 | k + 1, x0, x5, x6, x15 => if x15 = true then (if 0 ≤ x6 then (if x6 < (x0.size : Int) then (if 0 ≤ (wrap64 (7 * x6)) then (if (bt x0 x6) < 128 then (if (wrap64 (x6 + 1)) > 1 then (if (bt x0 x6) = 0 then (some (0, (⟨#[]⟩ : ByteArray), 3)) else (if (wrap64 (x6 + 1)) = 10 then (if (bt x0 x6) > 1 then (some (0, (⟨#[]⟩ : ByteArray), 3)) else (if 0 ≤ (wrap64 (x6 + 1)) then (if (wrap64 (x6 + 1)) ≤ (x0.size : Int) then (some (Go.bits .or .u64 x5 (shl .u64 (IntKind.u64.wrap (Go.bits .and .u8 (bt x0 x6) 127)) (wrap64 (7 * x6))), x0.extract ((wrap64 (x6 + 1)) : Int).toNat x0.size, 0)) else (none)) else (none))) else (if 0 ≤ (wrap64 (x6 + 1)) then (if (wrap64 (x6 + 1)) ≤ (x0.size : Int) then (some (Go.bits .or .u64 x5 (shl .u64 (IntKind.u64.wrap (Go.bits .and .u8 (bt x0 x6) 127)) (wrap64 (7 * x6))), x0.extract ((wrap64 (x6 + 1)) : Int).toNat x0.size, 0)) else (none)) else (none)))) else (if (wrap64 (x6 + 1)) = 10 then (if (bt x0 x6) > 1 then (some (0, (⟨#[]⟩ : ByteArray), 3)) else (if 0 ≤ (wrap64 (x6 + 1)) then (if (wrap64 (x6 + 1)) ≤ (x0.size : Int) then (some (Go.bits .or .u64 x5 (shl .u64 (IntKind.u64.wrap (Go.bits .and .u8 (bt x0 x6) 127)) (wrap64 (7 * x6))), x0.extract ((wrap64 (x6 + 1)) : Int).toNat x0.size, 0)) else (none)) else (none))) else (if 0 ≤ (wrap64 (x6 + 1)) then (if (wrap64 (x6 + 1)) ≤ (x0.size : Int) then (some (Go.bits .or .u64 x5 (shl .u64 (IntKind.u64.wrap (Go.bits .and .u8 (bt x0 x6) 127)) (wrap64 (7 * x6))), x0.extract ((wrap64 (x6 + 1)) : Int).toNat x0.size, 0)) else (none)) else (none)))) else (octet_TakeNum.l0 k x0 (Go.bits .or .u64 x5 (shl .u64 (IntKind.u64.wrap (Go.bits .and .u8 (bt x0 x6) 127)) (wrap64 (7 * x6)))) (wrap64 (x6 + 1)))) else (none)) else (none)) else (none)) else (if x6 = 10 then (some (0, (⟨#[]⟩ : ByteArray), 3)) else (some (0, (⟨#[]⟩ : ByteArray), 2)))
end
def octet_TakeNum.f (k : Nat) (a0 : ByteArray) : Option (Int × ByteArray × Int) := octet_TakeNum.l0 k a0 0 0
theorem octet_TakeNum.mono_l : ∀ k, (∀ y0 y1 y2, LeO (octet_TakeNum.l0 k y0 y1 y2) (octet_TakeNum.l0 (k + 1) y0 y1 y2)) ∧ (∀ y0 y1 y2 y3, LeO (octet_TakeNum.j1 k y0 y1 y2 y3) (octet_TakeNum.j1 (k + 1) y0 y1 y2 y3))
 | 0 => ⟨fun _ _ _ r h => by simp [octet_TakeNum.l0] at h, fun _ _ _ _ r h => by simp [octet_TakeNum.j1] at h⟩
 | k + 1 => by
  obtain ⟨ih0, ih1⟩ := octet_TakeNum.mono_l k
  refine ⟨?_, ?_⟩
  ·intro y0 y1 y2
   unfold octet_TakeNum.l0
   repeat' first
   | (with_reducible exact ih0 _ _ _)
   | (with_reducible exact ih1 _ _ _ _)
   | (with_reducible exact LeO.refl _)
   | (with_reducible exact LeO.none _)
   | (with_reducible refine LeO.ite ?_ ?_)
   | (with_reducible refine LeO.bind ?_ (fun _ => ?_))
   | exact ih0 _ _ _
   | exact ih1 _ _ _ _
   | exact LeO.none _
   | refine LeO.ite ?_ ?_
   | refine LeO.bind ?_ (fun _ => ?_)
  ·intro y0 y1 y2 y3
   unfold octet_TakeNum.j1
   repeat' first
   | (with_reducible exact ih0 _ _ _)
   | (with_reducible exact ih1 _ _ _ _)
   | (with_reducible exact LeO.refl _)
   | (with_reducible exact LeO.none _)
   | (with_reducible refine LeO.ite ?_ ?_)
   | (with_reducible refine LeO.bind ?_ (fun _ => ?_))
   | exact ih0 _ _ _
   | exact ih1 _ _ _ _
   | exact LeO.none _
   | refine LeO.ite ?_ ?_
   | refine LeO.bind ?_ (fun _ => ?_)
theorem octet_TakeNum.mono : ∀ a0 k, LeO (octet_TakeNum.f k a0) (octet_TakeNum.f (k + 1) a0) := by
 intro a0 k
 obtain ⟨ih0, ih1⟩ := octet_TakeNum.mono_l k
 unfold octet_TakeNum.f
 repeat' first
   | (with_reducible exact ih0 _ _ _)
   | (with_reducible exact ih1 _ _ _ _)
   | (with_reducible exact LeO.refl _)
   | (with_reducible exact LeO.none _)
   | (with_reducible refine LeO.ite ?_ ?_)
   | (with_reducible refine LeO.bind ?_ (fun _ => ?_))
   | exact ih0 _ _ _
   | exact ih1 _ _ _ _
   | exact LeO.none _
   | refine LeO.ite ?_ ?_
   | refine LeO.bind ?_ (fun _ => ?_)
set_option maxHeartbeats 8000000 in
set_option maxRecDepth 100000 in
theorem octet_TakeNum.calls (k : Nat) (a0 : ByteArray) (r1 : Int) (r2 : ByteArray) (r3 : Int) (w : World) (h : octet_TakeNum.f k a0 = some (r1, r2, r3)) :
  Calls Try.prog 63 #[.string a0] w fun e w' => e = .returned (.tuple #[.int .u64 r1, .string r2, .int .i64 r3]) ∧ Drawn0 w w' := by
 have H : (octet_TakeNum.l0 k a0 0 0) = some (r1, r2, r3) := h
 clear h
 have H' := Aside0.mk H
 clear H
 go_enter Try.func63, Try.ntmps63
 go_wp2
 repeat (go_quiet (fail); try go_wp2)
 go_loopg [5, 6] k (fun kq v5 v6 w' => ∃ (x5_1 : Int) (x6_1 : Int), v5 = .int .u64 x5_1 ∧ v6 = .int .i64 x6_1 ∧ Aside0 (octet_TakeNum.l0 kq a0 x5_1 x6_1 = some (r1, r2, r3)) ∧ Aside0 (kq ≤ k) ∧ Drawn0 w w')
 case atStart => exact ⟨(0), (0), (by first | rfl | (simp; done) | (simp [*]; done)), (by first | rfl | (simp; done) | (simp [*]; done)), H', ⟨Nat.le_refl _⟩, by repeat (first | exact Drawn0.refl _ | apply Drawn0.step)⟩
 case round =>
  clear H'
  obtain ⟨x5_1, x6_1, rfl, rfl, HA, HK1, ⟨m1, rfl⟩⟩ := hrel
  cases gk with
  | zero => exact absurd HA.out (by simp [octet_TakeNum.l0])
  | succ k1 =>
   (have H := HA.out; clear HA)
   simp only [octet_TakeNum.l0] at H
   have HC2 := Aside0.mk H
   clear H
   go_upto_region 3 with (fail)
   repeat (go_quiet (fail); go_upto_region 3 with (fail))
   go_cut [15] (fun v15 wc => ∃ (kq : Nat) (x15_1 : Bool), v15 = .bool x15_1 ∧ Aside0 (octet_TakeNum.j1 kq a0 x5_1 x6_1 x15_1 = some (r1, r2, r3)) ∧ Aside0 (kq ≤ k1) ∧ Drawn0 w wc)
   case first =>
    (have H := HC2.out; clear HC2)
    by_cases c3 : x6_1 < (a0.size : Int)
    ·rw [if_pos c3] at H
     have c3b0 : decide (x6_1 < (a0.size : Int)) = true := decide_eq_true c3
     clear c3
     (first | rw [c3b0] | (simp only [i64_w, i32_w]; rw [c3b0]) | skip)
     have H' := Aside0.mk H
     clear H
     go_wp2
     repeat (go_quiet (fail); try go_wp2)
     go_meet
     case rel => exact ⟨_, (decide (x6_1 < 10)), (by first | rfl | (simp; done) | (simp [*]; done)), H', ⟨by have := HK1.out; first | omega | exact Nat.le_refl _⟩, by repeat (first | exact Drawn0.refl _ | apply Drawn0.step)⟩
    ·rw [if_neg c3] at H
     have c3b0 : decide (x6_1 < (a0.size : Int)) = false := decide_eq_false c3
     clear c3
     (first | rw [c3b0] | (simp only [i64_w, i32_w]; rw [c3b0]) | skip)
     have H' := Aside0.mk H
     clear H
     go_wp2
     repeat (go_quiet (fail); try go_wp2)
     go_meet
     case rel => exact ⟨_, (false), (by first | rfl | (simp; done) | (simp [*]; done)), H', ⟨by have := HK1.out; first | omega | exact Nat.le_refl _⟩, by repeat (first | exact Drawn0.refl _ | apply Drawn0.step)⟩
   case rest =>
    (clear HC2; (try clear p2); (try clear c3); (try clear c3b0))
    obtain ⟨kq, x15_1, rfl, HA, HJ1, ⟨mc1, rfl⟩⟩ := hcut
    cases kq with
    | zero => exact absurd HA.out (by simp [octet_TakeNum.j1])
    | succ kj1 =>
     (have H := HA.out; clear HA)
     simp only [octet_TakeNum.j1] at H
     by_cases c4 : x15_1 = true
     ·subst c4
      have H1 : (if 0 ≤ x6_1 then (if x6_1 < (a0.size : Int) then (if 0 ≤ (wrap64 (7 * x6_1)) then (if (bt a0 x6_1) < 128 then (if (wrap64 (x6_1 + 1)) > 1 then (if (bt a0 x6_1) = 0 then (some (0, (⟨#[]⟩ : ByteArray), 3)) else (if (wrap64 (x6_1 + 1)) = 10 then (if (bt a0 x6_1) > 1 then (some (0, (⟨#[]⟩ : ByteArray), 3)) else (if 0 ≤ (wrap64 (x6_1 + 1)) then (if (wrap64 (x6_1 + 1)) ≤ (a0.size : Int) then (some (Go.bits .or .u64 x5_1 (shl .u64 (IntKind.u64.wrap (Go.bits .and .u8 (bt a0 x6_1) 127)) (wrap64 (7 * x6_1))), a0.extract ((wrap64 (x6_1 + 1)) : Int).toNat a0.size, 0)) else (none)) else (none))) else (if 0 ≤ (wrap64 (x6_1 + 1)) then (if (wrap64 (x6_1 + 1)) ≤ (a0.size : Int) then (some (Go.bits .or .u64 x5_1 (shl .u64 (IntKind.u64.wrap (Go.bits .and .u8 (bt a0 x6_1) 127)) (wrap64 (7 * x6_1))), a0.extract ((wrap64 (x6_1 + 1)) : Int).toNat a0.size, 0)) else (none)) else (none)))) else (if (wrap64 (x6_1 + 1)) = 10 then (if (bt a0 x6_1) > 1 then (some (0, (⟨#[]⟩ : ByteArray), 3)) else (if 0 ≤ (wrap64 (x6_1 + 1)) then (if (wrap64 (x6_1 + 1)) ≤ (a0.size : Int) then (some (Go.bits .or .u64 x5_1 (shl .u64 (IntKind.u64.wrap (Go.bits .and .u8 (bt a0 x6_1) 127)) (wrap64 (7 * x6_1))), a0.extract ((wrap64 (x6_1 + 1)) : Int).toNat a0.size, 0)) else (none)) else (none))) else (if 0 ≤ (wrap64 (x6_1 + 1)) then (if (wrap64 (x6_1 + 1)) ≤ (a0.size : Int) then (some (Go.bits .or .u64 x5_1 (shl .u64 (IntKind.u64.wrap (Go.bits .and .u8 (bt a0 x6_1) 127)) (wrap64 (7 * x6_1))), a0.extract ((wrap64 (x6_1 + 1)) : Int).toNat a0.size, 0)) else (none)) else (none)))) else (octet_TakeNum.l0 kj1 a0 (Go.bits .or .u64 x5_1 (shl .u64 (IntKind.u64.wrap (Go.bits .and .u8 (bt a0 x6_1) 127)) (wrap64 (7 * x6_1)))) (wrap64 (x6_1 + 1)))) else (none)) else (none)) else (none)) = some (r1, r2, r3) := by rw [if_pos rfl] at H; exact H
      clear H
      have H := H1
      clear H1
      by_cases c5 : 0 ≤ x6_1
      ·rw [if_pos c5] at H
       have c5b0 : decide (0 ≤ x6_1) = true := decide_eq_true c5
       clear c5
       by_cases c6 : x6_1 < (a0.size : Int)
       ·rw [if_pos c6] at H
        have c6b0 : decide (x6_1 < (a0.size : Int)) = true := decide_eq_true c6
        clear c6
        obtain ⟨ji8, hji8⟩ : ∃ j_ : Int, (wrap64 (7 * x6_1)) = j_ := ⟨_, rfl⟩
        replace H : (if 0 ≤ (ji8) then (if (bt a0 x6_1) < 128 then (if (wrap64 (x6_1 + 1)) > 1 then (if (bt a0 x6_1) = 0 then (some (0, (⟨#[]⟩ : ByteArray), 3)) else (if (wrap64 (x6_1 + 1)) = 10 then (if (bt a0 x6_1) > 1 then (some (0, (⟨#[]⟩ : ByteArray), 3)) else (if 0 ≤ (wrap64 (x6_1 + 1)) then (if (wrap64 (x6_1 + 1)) ≤ (a0.size : Int) then (some (Go.bits .or .u64 x5_1 (shl .u64 (IntKind.u64.wrap (Go.bits .and .u8 (bt a0 x6_1) 127)) (ji8)), a0.extract ((wrap64 (x6_1 + 1)) : Int).toNat a0.size, 0)) else (none)) else (none))) else (if 0 ≤ (wrap64 (x6_1 + 1)) then (if (wrap64 (x6_1 + 1)) ≤ (a0.size : Int) then (some (Go.bits .or .u64 x5_1 (shl .u64 (IntKind.u64.wrap (Go.bits .and .u8 (bt a0 x6_1) 127)) (ji8)), a0.extract ((wrap64 (x6_1 + 1)) : Int).toNat a0.size, 0)) else (none)) else (none)))) else (if (wrap64 (x6_1 + 1)) = 10 then (if (bt a0 x6_1) > 1 then (some (0, (⟨#[]⟩ : ByteArray), 3)) else (if 0 ≤ (wrap64 (x6_1 + 1)) then (if (wrap64 (x6_1 + 1)) ≤ (a0.size : Int) then (some (Go.bits .or .u64 x5_1 (shl .u64 (IntKind.u64.wrap (Go.bits .and .u8 (bt a0 x6_1) 127)) (ji8)), a0.extract ((wrap64 (x6_1 + 1)) : Int).toNat a0.size, 0)) else (none)) else (none))) else (if 0 ≤ (wrap64 (x6_1 + 1)) then (if (wrap64 (x6_1 + 1)) ≤ (a0.size : Int) then (some (Go.bits .or .u64 x5_1 (shl .u64 (IntKind.u64.wrap (Go.bits .and .u8 (bt a0 x6_1) 127)) (ji8)), a0.extract ((wrap64 (x6_1 + 1)) : Int).toNat a0.size, 0)) else (none)) else (none)))) else (octet_TakeNum.l0 kj1 a0 (Go.bits .or .u64 x5_1 (shl .u64 (IntKind.u64.wrap (Go.bits .and .u8 (bt a0 x6_1) 127)) (ji8))) (wrap64 (x6_1 + 1)))) else (none)) = some (r1, r2, r3) := by first | (rw [hji8] at H; exact H) | (simp only [hji8] at H ⊢; exact H)
        have hji8w : (IntKind.i64.wrap (7 * x6_1)) = ji8 := (i64_w _).trans hji8
        by_cases c9 : 0 ≤ (ji8)
        ·rw [if_pos c9] at H
         have c9b0 := eq_true c9
         have c9b1 : decide (0 ≤ (ji8)) = true := decide_eq_true c9
         clear c9
         obtain ⟨ji10, hji10⟩ : ∃ j_ : Int, (shl .u64 (IntKind.u64.wrap (Go.bits .and .u8 (bt a0 x6_1) 127)) (ji8)) = j_ := ⟨_, rfl⟩
         replace H : (if (bt a0 x6_1) < 128 then (if (wrap64 (x6_1 + 1)) > 1 then (if (bt a0 x6_1) = 0 then (some (0, (⟨#[]⟩ : ByteArray), 3)) else (if (wrap64 (x6_1 + 1)) = 10 then (if (bt a0 x6_1) > 1 then (some (0, (⟨#[]⟩ : ByteArray), 3)) else (if 0 ≤ (wrap64 (x6_1 + 1)) then (if (wrap64 (x6_1 + 1)) ≤ (a0.size : Int) then (some (Go.bits .or .u64 x5_1 (ji10), a0.extract ((wrap64 (x6_1 + 1)) : Int).toNat a0.size, 0)) else (none)) else (none))) else (if 0 ≤ (wrap64 (x6_1 + 1)) then (if (wrap64 (x6_1 + 1)) ≤ (a0.size : Int) then (some (Go.bits .or .u64 x5_1 (ji10), a0.extract ((wrap64 (x6_1 + 1)) : Int).toNat a0.size, 0)) else (none)) else (none)))) else (if (wrap64 (x6_1 + 1)) = 10 then (if (bt a0 x6_1) > 1 then (some (0, (⟨#[]⟩ : ByteArray), 3)) else (if 0 ≤ (wrap64 (x6_1 + 1)) then (if (wrap64 (x6_1 + 1)) ≤ (a0.size : Int) then (some (Go.bits .or .u64 x5_1 (ji10), a0.extract ((wrap64 (x6_1 + 1)) : Int).toNat a0.size, 0)) else (none)) else (none))) else (if 0 ≤ (wrap64 (x6_1 + 1)) then (if (wrap64 (x6_1 + 1)) ≤ (a0.size : Int) then (some (Go.bits .or .u64 x5_1 (ji10), a0.extract ((wrap64 (x6_1 + 1)) : Int).toNat a0.size, 0)) else (none)) else (none)))) else (octet_TakeNum.l0 kj1 a0 (Go.bits .or .u64 x5_1 (ji10)) (wrap64 (x6_1 + 1)))) = some (r1, r2, r3) := by first | (rw [hji10] at H; exact H) | (simp only [hji10] at H ⊢; exact H)
         have hji10_ : (IntKind.u64.wrap ((IntKind.u64.wrap (Go.bits .and .u8 (bt a0 x6_1) 127)) * 2 ^ min (ji8).toNat 64)) = ji10 := hji10
         have hji10z : (ji8) ≤ 64 → (IntKind.u64.wrap ((IntKind.u64.wrap (Go.bits .and .u8 (bt a0 x6_1) 127)) * 2 ^ (ji8).toNat)) = ji10 := shl_small hji10
         by_cases c11 : (bt a0 x6_1) < 128
         ·rw [if_pos c11] at H
          have c11b0 : decide ((bt a0 x6_1) < 128) = true := decide_eq_true c11
          clear c11
          by_cases c12 : (wrap64 (x6_1 + 1)) > 1
          ·rw [if_pos c12] at H
           have c12b0 : decide (1 < (wrap64 (x6_1 + 1))) = true := decide_eq_true c12
           clear c12
           by_cases c13 : (bt a0 x6_1) = 0
           ·rw [if_pos c13] at H
            have c13b0 : ((bt a0 x6_1) == 0) = true := beq_iff_eq.mpr c13
            have c13b1 : ((bt a0 x6_1) != 0) = false := bne_eq_false_iff_eq.mpr c13
            clear c13
            simp only [Option.some.injEq, Prod.mk.injEq] at H
            obtain ⟨rfl, rfl, rfl⟩ := H
            have p7 : 0 ≤ (x6_1 : Int) := of_decide_eq_true (by first | (with_reducible assumption) | assumption)
            have q7 : x6_1 < (a0.size : Int) := of_decide_eq_true (by first | (with_reducible assumption) | assumption)
            have hx7 := bt_at a0 x6_1
            replace p7 := eq_true p7
            replace q7 := eq_true q7
            go_wp2
            repeat (go_quiet (fail); try go_wp2)
            go_ret3
            exact ⟨by first | rfl | (simp; done) | (simp only [← hji8, ← hji10] <;> (first | rfl | simp)) | (simp [*]; done), by repeat (first | exact Drawn0.refl _ | apply Drawn0.step)⟩
           ·rw [if_neg c13] at H
            have c13b0 : ((bt a0 x6_1) == 0) = false := beq_eq_false_iff_ne.mpr c13
            have c13b1 : ((bt a0 x6_1) != 0) = true := bne_iff_ne.mpr c13
            by_cases c14 : (wrap64 (x6_1 + 1)) = 10
            ·rw [if_pos c14] at H
             have c14b0 : ((wrap64 (x6_1 + 1)) == 10) = true := beq_iff_eq.mpr c14
             have c14b1 : ((wrap64 (x6_1 + 1)) != 10) = false := bne_eq_false_iff_eq.mpr c14
             clear c14
             by_cases c15 : (bt a0 x6_1) > 1
             ·rw [if_pos c15] at H
              have c15b0 : decide (1 < (bt a0 x6_1)) = true := decide_eq_true c15
              clear c15
              simp only [Option.some.injEq, Prod.mk.injEq] at H
              obtain ⟨rfl, rfl, rfl⟩ := H
              have p7 : 0 ≤ (x6_1 : Int) := of_decide_eq_true (by first | (with_reducible assumption) | assumption)
              have q7 : x6_1 < (a0.size : Int) := of_decide_eq_true (by first | (with_reducible assumption) | assumption)
              have hx7 := bt_at a0 x6_1
              replace p7 := eq_true p7
              replace q7 := eq_true q7
              go_wp2
              repeat (go_quiet (fail); try go_wp2)
              go_ret3
              exact ⟨by first | rfl | (simp; done) | (simp only [← hji8, ← hji10] <;> (first | rfl | simp)) | (simp [*]; done), by repeat (first | exact Drawn0.refl _ | apply Drawn0.step)⟩
             ·rw [if_neg c15] at H
              have c15b0 : decide (1 < (bt a0 x6_1)) = false := decide_eq_false c15
              clear c15
              obtain ⟨ji16, hji16⟩ : ∃ j_ : Int, (wrap64 (x6_1 + 1)) = j_ := ⟨_, rfl⟩
              replace H : (if 0 ≤ (ji16) then (if (ji16) ≤ (a0.size : Int) then (some (Go.bits .or .u64 x5_1 (ji10), a0.extract ((ji16) : Int).toNat a0.size, 0)) else (none)) else (none)) = some (r1, r2, r3) := by first | (rw [hji16] at H; exact H) | (simp only [hji16] at H ⊢; exact H)
              (try rw [hji16] at c12b0)
              (try rw [hji16] at c14b0)
              (try rw [hji16] at c14b1)
              have hji16w : (IntKind.i64.wrap (x6_1 + 1)) = ji16 := (i64_w _).trans hji16
              by_cases c17 : 0 ≤ (ji16)
              ·rw [if_pos c17] at H
               have c17b0 := eq_true c17
               have c17b1 : decide (0 ≤ (ji16)) = true := decide_eq_true c17
               clear c17
               by_cases c18 : (ji16) ≤ (a0.size : Int)
               ·rw [if_pos c18] at H
                have c18b0 := eq_true c18
                have c18b1 : decide ((ji16) ≤ (a0.size : Int)) = true := decide_eq_true c18
                clear c18
                simp only [Option.some.injEq, Prod.mk.injEq] at H
                obtain ⟨rfl, rfl, rfl⟩ := H
                have p7 : 0 ≤ (x6_1 : Int) := of_decide_eq_true (by first | (with_reducible assumption) | assumption)
                have q7 : x6_1 < (a0.size : Int) := of_decide_eq_true (by first | (with_reducible assumption) | assumption)
                have hx7 := bt_at a0 x6_1
                replace p7 := eq_true p7
                replace q7 := eq_true q7
                go_wp2
                repeat (go_quiet (fail); try go_wp2)
                go_ret3
                exact ⟨by first | rfl | (simp; done) | (simp only [← hji8, ← hji10, ← hji16] <;> (first | rfl | simp)) | (simp [*]; done), by repeat (first | exact Drawn0.refl _ | apply Drawn0.step)⟩
               ·rw [if_neg c18] at H
                exact absurd H (by simp)
              ·rw [if_neg c17] at H
               exact absurd H (by simp)
            ·rw [if_neg c14] at H
             have c14b0 : ((wrap64 (x6_1 + 1)) == 10) = false := beq_eq_false_iff_ne.mpr c14
             have c14b1 : ((wrap64 (x6_1 + 1)) != 10) = true := bne_iff_ne.mpr c14
             obtain ⟨ji19, hji19⟩ : ∃ j_ : Int, (wrap64 (x6_1 + 1)) = j_ := ⟨_, rfl⟩
             replace H : (if 0 ≤ (ji19) then (if (ji19) ≤ (a0.size : Int) then (some (Go.bits .or .u64 x5_1 (ji10), a0.extract ((ji19) : Int).toNat a0.size, 0)) else (none)) else (none)) = some (r1, r2, r3) := by first | (rw [hji19] at H; exact H) | (simp only [hji19] at H ⊢; exact H)
             (try rw [hji19] at c12b0)
             (try rw [hji19] at c14b0)
             (try rw [hji19] at c14b1)
             have hji19w : (IntKind.i64.wrap (x6_1 + 1)) = ji19 := (i64_w _).trans hji19
             by_cases c20 : 0 ≤ (ji19)
             ·rw [if_pos c20] at H
              have c20b0 := eq_true c20
              have c20b1 : decide (0 ≤ (ji19)) = true := decide_eq_true c20
              clear c20
              by_cases c21 : (ji19) ≤ (a0.size : Int)
              ·rw [if_pos c21] at H
               have c21b0 := eq_true c21
               have c21b1 : decide ((ji19) ≤ (a0.size : Int)) = true := decide_eq_true c21
               clear c21
               simp only [Option.some.injEq, Prod.mk.injEq] at H
               obtain ⟨rfl, rfl, rfl⟩ := H
               have p7 : 0 ≤ (x6_1 : Int) := of_decide_eq_true (by first | (with_reducible assumption) | assumption)
               have q7 : x6_1 < (a0.size : Int) := of_decide_eq_true (by first | (with_reducible assumption) | assumption)
               have hx7 := bt_at a0 x6_1
               replace p7 := eq_true p7
               replace q7 := eq_true q7
               go_wp2
               repeat (go_quiet (fail); try go_wp2)
               go_ret3
               exact ⟨by first | rfl | (simp; done) | (simp only [← hji8, ← hji10, ← hji19] <;> (first | rfl | simp)) | (simp [*]; done), by repeat (first | exact Drawn0.refl _ | apply Drawn0.step)⟩
              ·rw [if_neg c21] at H
               exact absurd H (by simp)
             ·rw [if_neg c20] at H
              exact absurd H (by simp)
          ·rw [if_neg c12] at H
           have c12b0 : decide (1 < (wrap64 (x6_1 + 1))) = false := decide_eq_false c12
           clear c12
           by_cases c22 : (wrap64 (x6_1 + 1)) = 10
           ·rw [if_pos c22] at H
            have c22b0 : ((wrap64 (x6_1 + 1)) == 10) = true := beq_iff_eq.mpr c22
            have c22b1 : ((wrap64 (x6_1 + 1)) != 10) = false := bne_eq_false_iff_eq.mpr c22
            clear c22
            by_cases c23 : (bt a0 x6_1) > 1
            ·rw [if_pos c23] at H
             have c23b0 : decide (1 < (bt a0 x6_1)) = true := decide_eq_true c23
             clear c23
             simp only [Option.some.injEq, Prod.mk.injEq] at H
             obtain ⟨rfl, rfl, rfl⟩ := H
             have p7 : 0 ≤ (x6_1 : Int) := of_decide_eq_true (by first | (with_reducible assumption) | assumption)
             have q7 : x6_1 < (a0.size : Int) := of_decide_eq_true (by first | (with_reducible assumption) | assumption)
             have hx7 := bt_at a0 x6_1
             replace p7 := eq_true p7
             replace q7 := eq_true q7
             go_wp2
             repeat (go_quiet (fail); try go_wp2)
             go_ret3
             exact ⟨by first | rfl | (simp; done) | (simp only [← hji8, ← hji10] <;> (first | rfl | simp)) | (simp [*]; done), by repeat (first | exact Drawn0.refl _ | apply Drawn0.step)⟩
            ·rw [if_neg c23] at H
             have c23b0 : decide (1 < (bt a0 x6_1)) = false := decide_eq_false c23
             clear c23
             obtain ⟨ji24, hji24⟩ : ∃ j_ : Int, (wrap64 (x6_1 + 1)) = j_ := ⟨_, rfl⟩
             replace H : (if 0 ≤ (ji24) then (if (ji24) ≤ (a0.size : Int) then (some (Go.bits .or .u64 x5_1 (ji10), a0.extract ((ji24) : Int).toNat a0.size, 0)) else (none)) else (none)) = some (r1, r2, r3) := by first | (rw [hji24] at H; exact H) | (simp only [hji24] at H ⊢; exact H)
             (try rw [hji24] at c12b0)
             (try rw [hji24] at c22b0)
             (try rw [hji24] at c22b1)
             have hji24w : (IntKind.i64.wrap (x6_1 + 1)) = ji24 := (i64_w _).trans hji24
             by_cases c25 : 0 ≤ (ji24)
             ·rw [if_pos c25] at H
              have c25b0 := eq_true c25
              have c25b1 : decide (0 ≤ (ji24)) = true := decide_eq_true c25
              clear c25
              by_cases c26 : (ji24) ≤ (a0.size : Int)
              ·rw [if_pos c26] at H
               have c26b0 := eq_true c26
               have c26b1 : decide ((ji24) ≤ (a0.size : Int)) = true := decide_eq_true c26
               clear c26
               simp only [Option.some.injEq, Prod.mk.injEq] at H
               obtain ⟨rfl, rfl, rfl⟩ := H
               have p7 : 0 ≤ (x6_1 : Int) := of_decide_eq_true (by first | (with_reducible assumption) | assumption)
               have q7 : x6_1 < (a0.size : Int) := of_decide_eq_true (by first | (with_reducible assumption) | assumption)
               have hx7 := bt_at a0 x6_1
               replace p7 := eq_true p7
               replace q7 := eq_true q7
               go_wp2
               repeat (go_quiet (fail); try go_wp2)
               go_ret3
               exact ⟨by first | rfl | (simp; done) | (simp only [← hji8, ← hji10, ← hji24] <;> (first | rfl | simp)) | (simp [*]; done), by repeat (first | exact Drawn0.refl _ | apply Drawn0.step)⟩
              ·rw [if_neg c26] at H
               exact absurd H (by simp)
             ·rw [if_neg c25] at H
              exact absurd H (by simp)
           ·rw [if_neg c22] at H
            have c22b0 : ((wrap64 (x6_1 + 1)) == 10) = false := beq_eq_false_iff_ne.mpr c22
            have c22b1 : ((wrap64 (x6_1 + 1)) != 10) = true := bne_iff_ne.mpr c22
            obtain ⟨ji27, hji27⟩ : ∃ j_ : Int, (wrap64 (x6_1 + 1)) = j_ := ⟨_, rfl⟩
            replace H : (if 0 ≤ (ji27) then (if (ji27) ≤ (a0.size : Int) then (some (Go.bits .or .u64 x5_1 (ji10), a0.extract ((ji27) : Int).toNat a0.size, 0)) else (none)) else (none)) = some (r1, r2, r3) := by first | (rw [hji27] at H; exact H) | (simp only [hji27] at H ⊢; exact H)
            (try rw [hji27] at c12b0)
            (try rw [hji27] at c22b0)
            (try rw [hji27] at c22b1)
            have hji27w : (IntKind.i64.wrap (x6_1 + 1)) = ji27 := (i64_w _).trans hji27
            by_cases c28 : 0 ≤ (ji27)
            ·rw [if_pos c28] at H
             have c28b0 := eq_true c28
             have c28b1 : decide (0 ≤ (ji27)) = true := decide_eq_true c28
             clear c28
             by_cases c29 : (ji27) ≤ (a0.size : Int)
             ·rw [if_pos c29] at H
              have c29b0 := eq_true c29
              have c29b1 : decide ((ji27) ≤ (a0.size : Int)) = true := decide_eq_true c29
              clear c29
              simp only [Option.some.injEq, Prod.mk.injEq] at H
              obtain ⟨rfl, rfl, rfl⟩ := H
              have p7 : 0 ≤ (x6_1 : Int) := of_decide_eq_true (by first | (with_reducible assumption) | assumption)
              have q7 : x6_1 < (a0.size : Int) := of_decide_eq_true (by first | (with_reducible assumption) | assumption)
              have hx7 := bt_at a0 x6_1
              replace p7 := eq_true p7
              replace q7 := eq_true q7
              go_wp2
              repeat (go_quiet (fail); try go_wp2)
              go_ret3
              exact ⟨by first | rfl | (simp; done) | (simp only [← hji8, ← hji10, ← hji27] <;> (first | rfl | simp)) | (simp [*]; done), by repeat (first | exact Drawn0.refl _ | apply Drawn0.step)⟩
             ·rw [if_neg c29] at H
              exact absurd H (by simp)
            ·rw [if_neg c28] at H
             exact absurd H (by simp)
         ·rw [if_neg c11] at H
          have c11b0 : decide ((bt a0 x6_1) < 128) = false := decide_eq_false c11
          clear c11
          have H' := Aside0.mk H
          clear H
          have p7 : 0 ≤ (x6_1 : Int) := of_decide_eq_true (by first | (with_reducible assumption) | assumption)
          have q7 : x6_1 < (a0.size : Int) := of_decide_eq_true (by first | (with_reducible assumption) | assumption)
          have hx7 := bt_at a0 x6_1
          replace p7 := eq_true p7
          replace q7 := eq_true q7
          go_wp2
          repeat (go_quiet (fail); try go_wp2)
          go_roundg kj1
          case measure => have := HK1.out; have := HJ1.out; omega
          case rel => exact ⟨(Go.bits .or .u64 x5_1 (ji10)), (wrap64 (x6_1 + 1)), (by first | rfl | (simp; done) | (simp only [← hji10] <;> (first | rfl | simp)) | (simp [*]; done)), (by first | rfl | (simp; done) | (simp [*]; done)), H', ⟨by have := HK1.out; have := HJ1.out; omega⟩, by repeat (first | exact Drawn0.refl _ | apply Drawn0.step)⟩
        ·rw [if_neg c9] at H
         exact absurd H (by simp)
       ·rw [if_neg c6] at H
        exact absurd H (by simp)
      ·rw [if_neg c5] at H
       exact absurd H (by simp)
     ·replace c4 := Bool.eq_false_iff.mpr c4
      subst c4
      have H1 : (if x6_1 = 10 then (some (0, (⟨#[]⟩ : ByteArray), 3)) else (some (0, (⟨#[]⟩ : ByteArray), 2))) = some (r1, r2, r3) := by rw [if_neg (show ¬ (false = true) by decide)] at H; exact H
      clear H
      have H := H1
      clear H1
      by_cases c30 : x6_1 = 10
      ·rw [if_pos c30] at H
       have c30b0 : (x6_1 == 10) = true := beq_iff_eq.mpr c30
       have c30b1 : (x6_1 != 10) = false := bne_eq_false_iff_eq.mpr c30
       clear c30
       simp only [Option.some.injEq, Prod.mk.injEq] at H
       obtain ⟨rfl, rfl, rfl⟩ := H
       go_wp2
       repeat (go_quiet (fail); try go_wp2)
       go_ret3
       exact ⟨by first | rfl | (simp; done) | (simp [*]; done), by repeat (first | exact Drawn0.refl _ | apply Drawn0.step)⟩
      ·rw [if_neg c30] at H
       have c30b0 : (x6_1 == 10) = false := beq_eq_false_iff_ne.mpr c30
       have c30b1 : (x6_1 != 10) = true := bne_iff_ne.mpr c30
       simp only [Option.some.injEq, Prod.mk.injEq] at H
       obtain ⟨rfl, rfl, rfl⟩ := H
       go_wp2
       repeat (go_quiet (fail); try go_wp2)
       go_ret3
       exact ⟨by first | rfl | (simp; done) | (simp [*]; done), by repeat (first | exact Drawn0.refl _ | apply Drawn0.step)⟩
def octet_TakeText.j0 : Nat → Int → ByteArray → Bool → Option (ByteArray × ByteArray × Int)
 | 0, _, _, _ => none
 | k + 1, x7, x8, x20 => if x20 = true then (some ((⟨#[]⟩ : ByteArray), (⟨#[]⟩ : ByteArray), 5)) else (if x7 > (IntKind.u64.wrap ((x8.size : Int))) then (some ((⟨#[]⟩ : ByteArray), (⟨#[]⟩ : ByteArray), 2)) else (if 0 ≤ x7 then (if x7 ≤ (x8.size : Int) then (some (x8.extract 0 (x7 : Int).toNat, x8.extract (x7 : Int).toNat x8.size, 0)) else (none)) else (none)))
def octet_TakeText.f (k : Nat) (a0 : ByteArray) (a1 : Int) : Option (ByteArray × ByteArray × Int) := (octet_TakeNum.f k a0).bind fun bt101 => (if bt101.2.2 = 0 then (if a1 < 0 then (octet_TakeText.j0 k bt101.1 bt101.2.1 true) else (octet_TakeText.j0 k bt101.1 bt101.2.1 (decide (bt101.1 > (IntKind.u64.wrap (a1)))))) else (some ((⟨#[]⟩ : ByteArray), (⟨#[]⟩ : ByteArray), bt101.2.2)))
theorem octet_TakeText.mono_l : ∀ k, (∀ y0 y1 y2, LeO (octet_TakeText.j0 k y0 y1 y2) (octet_TakeText.j0 (k + 1) y0 y1 y2))
 | 0 => fun _ _ _ r h => by simp [octet_TakeText.j0] at h
 | k + 1 => by
  have ih0 := octet_TakeText.mono_l k
  ·intro y0 y1 y2
   unfold octet_TakeText.j0
   repeat' first
   | (with_reducible exact ih0 _ _ _)
   | (with_reducible exact octet_TakeNum.mono _ _)
   | (with_reducible exact LeO.refl _)
   | (with_reducible exact LeO.none _)
   | (with_reducible refine LeO.ite ?_ ?_)
   | (with_reducible refine LeO.bind ?_ (fun _ => ?_))
   | exact ih0 _ _ _
   | exact octet_TakeNum.mono _ _
   | exact LeO.none _
   | refine LeO.ite ?_ ?_
   | refine LeO.bind ?_ (fun _ => ?_)
theorem octet_TakeText.mono : ∀ a0 a1 k, LeO (octet_TakeText.f k a0 a1) (octet_TakeText.f (k + 1) a0 a1) := by
 intro a0 a1 k
 have ih0 := octet_TakeText.mono_l k
 unfold octet_TakeText.f
 repeat' first
   | (with_reducible exact ih0 _ _ _)
   | (with_reducible exact octet_TakeNum.mono _ _)
   | (with_reducible exact LeO.refl _)
   | (with_reducible exact LeO.none _)
   | (with_reducible refine LeO.ite ?_ ?_)
   | (with_reducible refine LeO.bind ?_ (fun _ => ?_))
   | exact ih0 _ _ _
   | exact octet_TakeNum.mono _ _
   | exact LeO.none _
   | refine LeO.ite ?_ ?_
   | refine LeO.bind ?_ (fun _ => ?_)
set_option maxHeartbeats 8000000 in
set_option maxRecDepth 100000 in
theorem octet_TakeText.calls (k : Nat) (a0 : ByteArray) (a1 : Int) (r1 : ByteArray) (r2 : ByteArray) (r3 : Int) (w : World) (h : octet_TakeText.f k a0 a1 = some (r1, r2, r3)) :
  Calls Try.prog 66 #[.string a0, .int .i64 a1] w fun e w' => e = .returned (.tuple #[.string r1, .string r2, .int .i64 r3]) ∧ Drawn0 w w' := by
 have H : ((octet_TakeNum.f k a0).bind fun bt101 => (if bt101.2.2 = 0 then (if a1 < 0 then (octet_TakeText.j0 k bt101.1 bt101.2.1 true) else (octet_TakeText.j0 k bt101.1 bt101.2.1 (decide (bt101.1 > (IntKind.u64.wrap (a1)))))) else (some ((⟨#[]⟩ : ByteArray), (⟨#[]⟩ : ByteArray), bt101.2.2)))) = some (r1, r2, r3) := h
 clear h
 replace H := Option.bind_eq_some_iff.mp H
 obtain ⟨⟨t101, t102, t103⟩, A30, H⟩ := H
 replace H : (if t103 = 0 then (if a1 < 0 then (octet_TakeText.j0 k t101 t102 true) else (octet_TakeText.j0 k t101 t102 (decide (t101 > (IntKind.u64.wrap (a1)))))) else (some ((⟨#[]⟩ : ByteArray), (⟨#[]⟩ : ByteArray), t103))) = some (r1, r2, r3) := H
 have A3 := Aside0.mk A30
 clear A30
 by_cases c4 : t103 = 0
 ·rw [if_pos c4] at H
  have c4b0 : (t103 == 0) = true := beq_iff_eq.mpr c4
  have c4b1 : (t103 != 0) = false := bne_eq_false_iff_eq.mpr c4
  clear c4
  have HC5 := Aside0.mk H
  clear H
  go_enter Try.func66, Try.ntmps66
  go_upto_region 4 with (first | (go_at_call 63; (with_reducible refine (octet_TakeNum.calls k a0 t101 t102 t103 _ A3.out).mono ?_); rintro e w' ⟨rfl, ⟨nd, rfl⟩⟩; (try first | exact ⟨rfl, _, World.drewN_drewN _ _ _⟩ | exact ⟨rfl, _, Eq.trans (World.drewN_drewN _ _ _) (congrArg (World.drewN _) (Nat.add_assoc _ _ _))⟩)))
  repeat (go_quiet (first | (go_at_call 63; (with_reducible refine (octet_TakeNum.calls k a0 t101 t102 t103 _ A3.out).mono ?_); rintro e w' ⟨rfl, ⟨nd, rfl⟩⟩; (try first | exact ⟨rfl, _, World.drewN_drewN _ _ _⟩ | exact ⟨rfl, _, Eq.trans (World.drewN_drewN _ _ _) (congrArg (World.drewN _) (Nat.add_assoc _ _ _))⟩))); go_upto_region 4 with (first | (go_at_call 63; (with_reducible refine (octet_TakeNum.calls k a0 t101 t102 t103 _ A3.out).mono ?_); rintro e w' ⟨rfl, ⟨nd, rfl⟩⟩; (try first | exact ⟨rfl, _, World.drewN_drewN _ _ _⟩ | exact ⟨rfl, _, Eq.trans (World.drewN_drewN _ _ _) (congrArg (World.drewN _) (Nat.add_assoc _ _ _))⟩))))
  (try simp only [Act.put, List.setIfInBounds_toArray, List.set_cons_zero, List.set_cons_succ])
  go_cut [20] (fun v20 wc => ∃ (kq : Nat) (x20_4 : Bool), v20 = .bool x20_4 ∧ Aside0 (octet_TakeText.j0 kq t101 t102 x20_4 = some (r1, r2, r3)) ∧ Aside0 (kq ≤ k) ∧ Drawn0 w wc)
  case first =>
   (have H := HC5.out; clear HC5)
   by_cases c6 : a1 < 0
   ·rw [if_pos c6] at H
    have c6b0 : decide (a1 < 0) = true := decide_eq_true c6
    clear c6
    (first | rw [c6b0] | (simp only [i64_w, i32_w]; rw [c6b0]) | skip)
    have H' := Aside0.mk H
    clear H
    go_wp2
    repeat (go_quiet (fail); try go_wp2)
    go_meet
    case rel => exact ⟨_, (true), (by first | rfl | (simp; done) | (simp [*]; done)), H', ⟨by first | omega | exact Nat.le_refl _⟩, by repeat (first | exact Drawn0.refl _ | apply Drawn0.step)⟩
   ·rw [if_neg c6] at H
    have c6b0 : decide (a1 < 0) = false := decide_eq_false c6
    clear c6
    (first | rw [c6b0] | (simp only [i64_w, i32_w]; rw [c6b0]) | skip)
    have H' := Aside0.mk H
    clear H
    go_wp2
    repeat (go_quiet (fail); try go_wp2)
    go_meet
    case rel => exact ⟨_, (decide (t101 > (IntKind.u64.wrap (a1)))), (by first | rfl | (simp; done) | (simp [*]; done)), H', ⟨by first | omega | exact Nat.le_refl _⟩, by repeat (first | exact Drawn0.refl _ | apply Drawn0.step)⟩
  case rest =>
   (clear HC5; (try clear p2); (try clear c4); (try clear c4b0); (try clear c4b1); (try clear c6); (try clear c6b0))
   obtain ⟨kq, x20_4, rfl, HA, HJ4, ⟨mc4, rfl⟩⟩ := hcut
   cases kq with
   | zero => exact absurd HA.out (by simp [octet_TakeText.j0])
   | succ kj4 =>
    (have H := HA.out; clear HA)
    simp only [octet_TakeText.j0] at H
    by_cases c7 : x20_4 = true
    ·subst c7
     have H1 : (some ((⟨#[]⟩ : ByteArray), (⟨#[]⟩ : ByteArray), 5)) = some (r1, r2, r3) := by rw [if_pos rfl] at H; exact H
     clear H
     have H := H1
     clear H1
     simp only [Option.some.injEq, Prod.mk.injEq] at H
     obtain ⟨rfl, rfl, rfl⟩ := H
     go_wp2
     repeat (go_quiet (fail); try go_wp2)
     go_ret3
     exact ⟨by first | rfl | (simp; done) | (simp [*]; done), by repeat (first | exact Drawn0.refl _ | apply Drawn0.step)⟩
    ·replace c7 := Bool.eq_false_iff.mpr c7
     subst c7
     have H1 : (if t101 > (IntKind.u64.wrap ((t102.size : Int))) then (some ((⟨#[]⟩ : ByteArray), (⟨#[]⟩ : ByteArray), 2)) else (if 0 ≤ t101 then (if t101 ≤ (t102.size : Int) then (some (t102.extract 0 (t101 : Int).toNat, t102.extract (t101 : Int).toNat t102.size, 0)) else (none)) else (none))) = some (r1, r2, r3) := by rw [if_neg (show ¬ (false = true) by decide)] at H; exact H
     clear H
     have H := H1
     clear H1
     by_cases c8 : t101 > (IntKind.u64.wrap ((t102.size : Int)))
     ·rw [if_pos c8] at H
      have c8b0 : decide ((IntKind.u64.wrap ((t102.size : Int))) < t101) = true := decide_eq_true c8
      clear c8
      simp only [Option.some.injEq, Prod.mk.injEq] at H
      obtain ⟨rfl, rfl, rfl⟩ := H
      go_wp2
      repeat (go_quiet (fail); try go_wp2)
      go_ret3
      exact ⟨by first | rfl | (simp; done) | (simp [*]; done), by repeat (first | exact Drawn0.refl _ | apply Drawn0.step)⟩
     ·rw [if_neg c8] at H
      have c8b0 : decide ((IntKind.u64.wrap ((t102.size : Int))) < t101) = false := decide_eq_false c8
      clear c8
      by_cases c9 : 0 ≤ t101
      ·rw [if_pos c9] at H
       have c9b0 := eq_true c9
       have c9b1 : decide (0 ≤ t101) = true := decide_eq_true c9
       clear c9
       by_cases c10 : t101 ≤ (t102.size : Int)
       ·rw [if_pos c10] at H
        have c10b0 := eq_true c10
        have c10b1 : decide (t101 ≤ (t102.size : Int)) = true := decide_eq_true c10
        clear c10
        have c11b0 := eq_true (of_decide_eq_true (by first | (with_reducible assumption) | assumption) : 0 ≤ t101)
        have c12b0 := eq_true (of_decide_eq_true (by first | (with_reducible assumption) | assumption) : t101 ≤ (t102.size : Int))
        simp only [Option.some.injEq, Prod.mk.injEq] at H
        obtain ⟨rfl, rfl, rfl⟩ := H
        go_wp2
        repeat (go_quiet (fail); try go_wp2)
        go_ret3
        exact ⟨by first | rfl | (simp; done) | (simp [*]; done), by repeat (first | exact Drawn0.refl _ | apply Drawn0.step)⟩
       ·rw [if_neg c10] at H
        exact absurd H (by simp)
      ·rw [if_neg c9] at H
       exact absurd H (by simp)
 ·rw [if_neg c4] at H
  have c4b0 : (t103 == 0) = false := beq_eq_false_iff_ne.mpr c4
  have c4b1 : (t103 != 0) = true := bne_iff_ne.mpr c4
  simp only [Option.some.injEq, Prod.mk.injEq] at H
  obtain ⟨rfl, rfl, rfl⟩ := H
  go_enter Try.func66, Try.ntmps66
  go_wp2_with (first | (go_at_call 63; (with_reducible refine (octet_TakeNum.calls k a0 t101 t102 t103 _ A3.out).mono ?_); rintro e w' ⟨rfl, ⟨nd, rfl⟩⟩; (try first | exact ⟨rfl, _, World.drewN_drewN _ _ _⟩ | exact ⟨rfl, _, Eq.trans (World.drewN_drewN _ _ _) (congrArg (World.drewN _) (Nat.add_assoc _ _ _))⟩)))
  repeat (go_quiet (first | (go_at_call 63; (with_reducible refine (octet_TakeNum.calls k a0 t101 t102 t103 _ A3.out).mono ?_); rintro e w' ⟨rfl, ⟨nd, rfl⟩⟩; (try first | exact ⟨rfl, _, World.drewN_drewN _ _ _⟩ | exact ⟨rfl, _, Eq.trans (World.drewN_drewN _ _ _) (congrArg (World.drewN _) (Nat.add_assoc _ _ _))⟩))); try go_wp2_with (first | (go_at_call 63; (with_reducible refine (octet_TakeNum.calls k a0 t101 t102 t103 _ A3.out).mono ?_); rintro e w' ⟨rfl, ⟨nd, rfl⟩⟩; (try first | exact ⟨rfl, _, World.drewN_drewN _ _ _⟩ | exact ⟨rfl, _, Eq.trans (World.drewN_drewN _ _ _) (congrArg (World.drewN _) (Nat.add_assoc _ _ _))⟩))))
  go_ret3
  exact ⟨by first | rfl | (simp; done) | (simp [*]; done), by repeat (first | exact Drawn0.refl _ | apply Drawn0.step)⟩
def octet_Fold.f (a0 : Int) : Option (Int) := some (Go.bits .xor .u64 (IntKind.u64.wrap ((IntKind.u64.wrap (a0)) * 2)) (IntKind.u64.wrap (a0 / 9223372036854775808)))
set_option maxHeartbeats 8000000 in
set_option maxRecDepth 100000 in
theorem octet_Fold.calls (a0 : Int) (r : Int) (w : World) (h : octet_Fold.f a0 = some r) :
  Calls Try.prog 50 #[.int .i64 a0] w fun e w' => e = .returned (.int .u64 r) ∧ Drawn0 w w' := by
 have H : (some (Go.bits .xor .u64 (IntKind.u64.wrap ((IntKind.u64.wrap (a0)) * 2)) (IntKind.u64.wrap (a0 / 9223372036854775808)))) = some r := h
 clear h
 obtain rfl := Option.some.inj H
 go_enter Try.func50, Try.ntmps50
 go_wp2
 go_ret
 exact ⟨by first | rfl | (simp; done) | (simp [*]; done), by repeat (first | exact Drawn0.refl _ | apply Drawn0.step)⟩
def octet_Unfold.f (a0 : Int) : Option (Int) := some (Go.bits .xor .i64 (wrap64 (a0 / 2)) (wrap64 (-(wrap64 (Go.bits .and .u64 a0 1)))))
set_option maxHeartbeats 8000000 in
set_option maxRecDepth 100000 in
theorem octet_Unfold.calls (a0 : Int) (r : Int) (w : World) (h : octet_Unfold.f a0 = some r) :
  Calls Try.prog 64 #[.int .u64 a0] w fun e w' => e = .returned (.int .i64 r) ∧ Drawn0 w w' := by
 have H : (some (Go.bits .xor .i64 (wrap64 (a0 / 2)) (wrap64 (-(wrap64 (Go.bits .and .u64 a0 1)))))) = some r := h
 clear h
 obtain rfl := Option.some.inj H
 go_enter Try.func64, Try.ntmps64
 go_wp2
 go_ret
 exact ⟨by first | rfl | (simp; done) | (simp [*]; done), by repeat (first | exact Drawn0.refl _ | apply Drawn0.step)⟩
end Go.Proofs.Ytgnmhbkialgeaaa.T
end

section
namespace Go.Proofs.Ytgnmhbkialgeaaa
open Go.RowKit Go.Proofs.YtgnmhbkialgeaaaW.PrintWords Go.Proofs.YtgnmhbkialgeaaaW.PrintLast Go.Proofs.YtgnmhbkialgeaaaW.PrintMore Math
def takeN : Nat → Nat → List UInt8 → Nat × List UInt8 × Int
  | at_, _, [] => (0, [], if at_ = 10 then 3 else 2)
  | at_, acc, c :: r =>
    if at_ = 10 then (0, [], 3)
    else if c.toNat < 128 then (if (1 ≤ at_ ∧ c.toNat = 0) ∨ (at_ = 9 ∧ 1 < c.toNat) then (0, [], 3) else (acc + c.toNat * 2 ^ (7 * at_), r, 0))
    else takeN (at_ + 1) (acc + c.toNat % 128 * 2 ^ (7 * at_)) r
def outN (p : Nat × List UInt8 × Int) : Int × ByteArray × Int := ((p.1 : Int), ⟨p.2.1.toArray⟩, p.2.2)
def takeNumS (s : ByteArray) : Int × ByteArray × Int := outN (takeN 0 0 s.data.toList)
theorem bt_at_ (s : ByteArray) (i : Nat) (h : i < s.data.toList.length) : bt s (i : Int) = ((s.data.toList[i]).toNat : Int) := by
  unfold bt
  rw [dif_pos (by rw [Int.toNat_natCast, sz]; exact h)]
  simp only [Int.toNat_natCast]
  rfl
theorem drop_bytes (s : ByteArray) (i : Nat) : s.extract i s.size = ⟨(s.data.toList.drop i).toArray⟩ := by
  apply inj
  rw [ext_, List.take_of_length_le (by rw [← sz]; exact Nat.le_refl _)]
theorem and127 (c : UInt8) : IntKind.u64.wrap (Go.bits .and .u8 (c.toNat : Int) 127) = ((c.toNat % 128 : Nat) : Int) := by
  have hc := c.toNat_lt
  have h := u8_and_nat c.toNat 127 hc (by decide)
  rw [nat_mask7] at h
  rw [show ((127 : Nat) : Int) = 127 from rfl] at h
  rw [h, IntKind.wrap_u64]
  omega
theorem or_shl {acc x a : Nat} (ha : acc < 2 ^ (7 * a)) (hx : x * 2 ^ (7 * a) < 18446744073709551616) (ha9 : a ≤ 9) :
    Go.bits .or .u64 (acc : Int) (shl .u64 (x : Int) (wrap64 (7 * (a : Int)))) = ((acc + x * 2 ^ (7 * a) : Nat) : Int) := by
  have e : shl .u64 (x : Int) (wrap64 (7 * (a : Int))) = ((x * 2 ^ (7 * a) : Nat) : Int) := by
    unfold shl
    rw [w64 (by omega) (by omega), show (7 * (a : Int)).toNat = 7 * a from by omega, show min (7 * a) IntKind.u64.bits = 7 * a from by (have : IntKind.u64.bits = 64 := rfl); omega, IntKind.wrap_u64]
    have : ((x : Int) * 2 ^ (7 * a)) = ((x * 2 ^ (7 * a) : Nat) : Int) := by push_cast; rfl
    rw [this]; omega
  have hlt : 2 ^ (7 * a) ≤ 2 ^ 63 := Nat.pow_le_pow_right (by decide) (by omega)
  rw [e, u64_or_nat _ _ (by omega) hx, Nat.or_comm, Nat.mul_comm x, ← Nat.two_pow_add_eq_or_of_lt ha, Nat.add_comm]
theorem l0_ten (s : ByteArray) (hs : 10 ≤ s.size) (k : Nat) (acc : Int) : T.octet_TakeNum.l0 (k + 2) s acc 10 = some (0, ⟨#[]⟩, 3) := by
  simp only [T.octet_TakeNum.l0, T.octet_TakeNum.j1]
  by_cases h : (10 : Int) < (s.size : Int)
  · rw [if_pos h, if_neg (by decide), if_pos trivial]
  · rw [if_neg h, if_neg (by decide), if_pos trivial]
theorem tk_bad {a acc : Nat} {c : UInt8} {r : List UInt8} (ha : a ≤ 9) (hc : c.toNat < 128) (h : (1 ≤ a ∧ c.toNat = 0) ∨ (a = 9 ∧ 1 < c.toNat)) : takeN a acc (c :: r) = (0, [], 3) := by
  rw [takeN, if_neg (by omega), if_pos hc, if_pos h]
theorem tk_ok {a acc : Nat} {c : UInt8} {r : List UInt8} (ha : a ≤ 9) (hc : c.toNat < 128) (h : ¬((1 ≤ a ∧ c.toNat = 0) ∨ (a = 9 ∧ 1 < c.toNat))) : takeN a acc (c :: r) = (acc + c.toNat * 2 ^ (7 * a), r, 0) := by
  rw [takeN, if_neg (by omega), if_pos hc, if_neg h]
theorem tk_go {a acc : Nat} {c : UInt8} {r : List UInt8} (ha : a ≤ 9) (hc : ¬ c.toNat < 128) : takeN a acc (c :: r) = takeN (a + 1) (acc + c.toNat % 128 * 2 ^ (7 * a)) r := by
  rw [takeN, if_neg (by omega), if_neg hc]
theorem l0_eq (s : ByteArray) (hs : s.size ≤ 9223372036854775807) (d : Nat) : ∀ (a k acc : Nat), a + d = 10 → a ≤ s.size → acc < 2 ^ (7 * a) →
    T.octet_TakeNum.l0 (k + 2 * d + 2) s (acc : Int) (a : Int) = some (outN (takeN a acc (s.data.toList.drop a))) := by
  induction d with
  | zero =>
    intro a k acc ha hsz hacc
    obtain rfl : a = 10 := by omega
    have h := l0_ten s hsz k acc
    rw [show k + 2 * 0 + 2 = k + 2 from by omega, show ((10 : Nat) : Int) = 10 from rfl, h]
    cases hd : s.data.toList.drop 10 with
    | nil => rfl
    | cons c r => rfl
  | succ d ih =>
    intro a k acc ha hsz hacc
    rw [show k + 2 * (d + 1) + 2 = (k + 2 * d + 2) + 1 + 1 from by omega]
    generalize hK : k + 2 * d + 2 = K
    simp only [T.octet_TakeNum.l0, T.octet_TakeNum.j1]
    by_cases hlt : a < s.size
    · have hl : a < s.data.toList.length := by rw [← sz]; exact hlt
      rw [if_pos (by omega), if_pos (decide_eq_true (by omega)), if_pos (by omega), if_pos (by omega), if_pos (by rw [w64 (by omega) (by omega)]; omega)]
      rw [bt_at_ s a hl, List.drop_eq_getElem_cons hl, w64 (n := (a : Int) + 1) (by omega) (by omega)]
      generalize s.data.toList[a] = c
      have hc := c.toNat_lt
      have ha9 : a ≤ 9 := by omega
      rw [and127]
      by_cases hc1 : c.toNat < 128
      · rw [if_pos (by omega)]
        have e1 : ((a : Int) + 1).toNat = a + 1 := by omega
        have fin : ∀ (_ : ¬((1 ≤ a ∧ c.toNat = 0) ∨ (a = 9 ∧ 1 < c.toNat))), (some (Go.bits .or .u64 (acc : Int) (shl .u64 ((c.toNat % 128 : Nat) : Int) (wrap64 (7 * (a : Int)))), s.extract ((a : Int) + 1).toNat s.size, (0 : Int)) : Option (Int × ByteArray × Int)) = some (outN (takeN a acc (c :: s.data.toList.drop (a + 1)))) := by
          intro hn
          have hx : c.toNat % 128 * 2 ^ (7 * a) < 18446744073709551616 := by
            rw [Nat.mod_eq_of_lt hc1]
            by_cases h9 : a = 9
            · subst h9
              have : c.toNat ≤ 1 := by omega
              calc c.toNat * 2 ^ (7 * 9) ≤ 1 * 2 ^ (7 * 9) := Nat.mul_le_mul_right _ this
                _ < 18446744073709551616 := by decide
            · calc c.toNat * 2 ^ (7 * a) ≤ 127 * 2 ^ (7 * a) := Nat.mul_le_mul_right _ (by omega)
                _ ≤ 127 * 2 ^ 56 := Nat.mul_le_mul_left _ (Nat.pow_le_pow_right (by decide) (by omega))
                _ < 18446744073709551616 := by decide
          rw [tk_ok ha9 hc1 hn, or_shl hacc hx (by omega), e1, drop_bytes, Nat.mod_eq_of_lt hc1]
          rfl
        by_cases ha1 : 1 ≤ a
        · rw [if_pos (by omega)]
          by_cases hz : c.toNat = 0
          · rw [if_pos (by omega), tk_bad ha9 hc1 (.inl ⟨ha1, hz⟩)]; rfl
          · rw [if_neg (by omega)]
            by_cases h9 : a = 9
            · rw [if_pos (by omega)]
              by_cases h1 : 1 < c.toNat
              · rw [if_pos (by omega), tk_bad ha9 hc1 (.inr ⟨h9, h1⟩)]; rfl
              · rw [if_neg (by omega), if_pos (by omega), if_pos (by omega)]
                exact fin (by omega)
            · rw [if_neg (by omega), if_pos (by omega), if_pos (by omega)]
              exact fin (by omega)
        · rw [if_neg (by omega), if_neg (by omega), if_pos (by omega), if_pos (by omega)]
          exact fin (by omega)
      · rw [if_neg (by omega), tk_go ha9 hc1]
        by_cases h9 : a = 9
        · subst h9
          obtain rfl : d = 0 := by omega
          rw [show ((9 : Nat) : Int) + 1 = 10 from rfl, ← hK, show k + 2 * 0 + 2 = k + 2 from by omega, l0_ten s (by omega)]
          cases hd : s.data.toList.drop (9 + 1) with
          | nil => rfl
          | cons c r => rfl
        · have hx : c.toNat % 128 * 2 ^ (7 * a) < 18446744073709551616 := by
            calc c.toNat % 128 * 2 ^ (7 * a) ≤ 127 * 2 ^ (7 * a) := Nat.mul_le_mul_right _ (by omega)
              _ ≤ 127 * 2 ^ 56 := Nat.mul_le_mul_left _ (Nat.pow_le_pow_right (by decide) (by omega))
              _ < 18446744073709551616 := by decide
          rw [or_shl hacc hx (by omega), ← hK]
          exact ih (a + 1) k _ (by omega) (by omega) (by
            have : c.toNat % 128 * 2 ^ (7 * a) ≤ 127 * 2 ^ (7 * a) := Nat.mul_le_mul_right _ (by omega)
            rw [show 7 * (a + 1) = 7 * a + 7 from by omega, Nat.pow_add]
            omega)
    · obtain rfl : a = s.size := by omega
      rw [if_neg (by omega), if_neg (by decide), if_neg (by omega), List.drop_eq_nil_of_le (by rw [← sz]; exact Nat.le_refl _)]
      unfold takeN
      rw [if_neg (by omega)]
      rfl
theorem takeNum_T (s : ByteArray) (hs : s.size ≤ 9223372036854775807) (k : Nat) : T.octet_TakeNum.f (k + 22) s = some (takeNumS s) := by
  have h := l0_eq s hs 10 0 k 0 rfl (Nat.zero_le _) (by decide)
  exact h
theorem takeN_len (l : List UInt8) : ∀ a acc, (takeN a acc l).2.1.length ≤ l.length ∧ ((takeN a acc l).2.2 = 0 → (takeN a acc l).2.1.length < l.length) := by
  induction l with
  | nil => intro a acc; rw [takeN]; refine ⟨by simp, fun h => ?_⟩; simp only at h; split at h <;> cases h
  | cons c r ih =>
    intro a acc
    rw [takeN]
    split
    · exact ⟨by simp, fun h => by cases h⟩
    · split
      · split
        · exact ⟨by simp, fun h => by cases h⟩
        · exact ⟨by simp, fun _ => by simp⟩
      · have := ih (a + 1) (acc + c.toNat % 128 * 2 ^ (7 * a))
        simp only [List.length_cons]
        exact ⟨by omega, fun h => by have := this.2 h; omega⟩
theorem takeN_lt (l : List UInt8) : ∀ a acc, a ≤ 10 → (acc < 2 ^ (7 * a)) → (takeN a acc l).1 < 18446744073709551616 := by
  induction l with
  | nil => intro a acc _ _; rw [takeN]; show 0 < _; decide
  | cons c r ih =>
    intro a acc ha hacc
    rw [takeN]
    split
    · decide
    · rename_i h10
      split
      · rename_i hc
        split
        · decide
        · rename_i hn
          show acc + c.toNat * 2 ^ (7 * a) < _
          by_cases h9 : a = 9
          · subst h9
            have h1 : c.toNat ≤ 1 := by omega
            have : c.toNat * 2 ^ (7 * 9) ≤ 1 * 2 ^ (7 * 9) := Nat.mul_le_mul_right _ h1
            omega
          · have h2 : 2 ^ (7 * a) ≤ 2 ^ 56 := Nat.pow_le_pow_right (by decide) (by omega)
            have : c.toNat * 2 ^ (7 * a) ≤ 127 * 2 ^ (7 * a) := Nat.mul_le_mul_right _ (by omega)
            omega
      · by_cases h9 : a = 9
        · subst h9
          cases r with
          | nil => rw [takeN]; decide
          | cons c r => rw [takeN, if_pos rfl]; decide
        · refine ih (a + 1) _ (by omega) ?_
          have : c.toNat % 128 * 2 ^ (7 * a) ≤ 127 * 2 ^ (7 * a) := Nat.mul_le_mul_right _ (by omega)
          rw [show 7 * (a + 1) = 7 * a + 7 from by omega, Nat.pow_add]
          omega
theorem takeN0_lt (l : List UInt8) : (takeN 0 0 l).1 < 18446744073709551616 := takeN_lt l 0 0 (by decide) (by decide)
def textL (l : List UInt8) (m : Int) : List UInt8 × List UInt8 × Int :=
  if (takeN 0 0 l).2.2 = 0 then
    (if m < 0 ∨ m < ((takeN 0 0 l).1 : Int) then ([], [], 5)
     else if (takeN 0 0 l).2.1.length < (takeN 0 0 l).1 then ([], [], 2)
     else ((takeN 0 0 l).2.1.take (takeN 0 0 l).1, (takeN 0 0 l).2.1.drop (takeN 0 0 l).1, 0))
  else ([], [], (takeN 0 0 l).2.2)
def outT (p : List UInt8 × List UInt8 × Int) : ByteArray × ByteArray × Int := (⟨p.1.toArray⟩, ⟨p.2.1.toArray⟩, p.2.2)
theorem mk_size (l : List UInt8) : (⟨l.toArray⟩ : ByteArray).size = l.length := by rw [sz]
theorem takeText_T (s : ByteArray) (hs : s.size ≤ 9223372036854775807) (m : Int) (hm : -9223372036854775808 ≤ m ∧ m ≤ 9223372036854775807) (k : Nat) :
    T.octet_TakeText.f (k + 22) s m = some (outT (textL s.data.toList m)) := by
  unfold T.octet_TakeText.f
  rw [bs (takeNum_T s hs k)]
  have hlt := takeN0_lt s.data.toList
  have hl := (takeN_len s.data.toList 0 0).1
  rw [← sz] at hl
  unfold takeNumS textL
  generalize takeN 0 0 s.data.toList = p at *
  obtain ⟨n, r, e⟩ := p
  replace hlt : n < 18446744073709551616 := hlt
  replace hl : r.length ≤ s.size := hl
  by_cases he : e = 0
  · rw [if_pos (show (outN (n, r, e)).2.2 = 0 from he), if_pos (show (n, r, e).2.2 = 0 from he)]
    dsimp only [outN]
    have j0 : ∀ b : Bool, T.octet_TakeText.j0 (k + 22) (n : Int) ⟨r.toArray⟩ b = if b = true then some (⟨#[]⟩, ⟨#[]⟩, 5) else if r.length < n then some (⟨#[]⟩, ⟨#[]⟩, 2) else some (⟨(r.take n).toArray⟩, ⟨(r.drop n).toArray⟩, 0) := by
      intro b
      show T.octet_TakeText.j0 ((k + 21) + 1) _ _ _ = _
      rw [T.octet_TakeText.j0]
      by_cases hb : b = true
      · rw [if_pos hb, if_pos hb]
      · rw [if_neg hb, if_neg hb, mk_size, IntKind.wrap_u64]
        by_cases h2 : r.length < n
        · rw [if_pos (by omega), if_pos h2]
        · rw [if_neg (by omega), if_neg h2, if_pos (by omega), if_pos (by omega), Int.toNat_natCast]
          congr 2
          · apply inj; rw [ext_, List.drop_zero]
          · congr 1; apply inj; rw [ext_, List.take_of_length_le (Nat.le_refl _)]
    by_cases h1 : m < 0
    · rw [if_pos h1, j0, if_pos rfl, if_pos (.inl h1)]; rfl
    · rw [if_neg h1, j0]
      by_cases h2 : m < (n : Int)
      · rw [if_pos (by simp [IntKind.wrap_u64]; omega), if_pos (.inr h2)]; rfl
      · rw [if_neg (by simp [IntKind.wrap_u64]; omega), if_neg (show ¬(m < 0 ∨ m < (n : Int)) by omega)]
        by_cases h3 : r.length < n
        · rw [if_pos h3, if_pos h3]; rfl
        · rw [if_neg h3, if_neg h3]; rfl
  · rw [if_neg (show ¬ (outN (n, r, e)).2.2 = 0 from he), if_neg (show ¬ (n, r, e).2.2 = 0 from he)]; rfl
def octet_TakeNum.f (a0 : ByteArray) : Option (Int × ByteArray × Int) := if a0.size ≤ 9223372036854775807 then some (takeNumS a0) else none
theorem octet_TakeNum.calls (a0 : ByteArray) (r1 : Int) (r2 : ByteArray) (r3 : Int) (w : World) (h : octet_TakeNum.f a0 = some (r1, r2, r3)) :
    Calls Try.prog 63 #[.string a0] w fun e w' => e = .returned (.tuple #[.int .u64 r1, .string r2, .int .i64 r3]) ∧ Drawn0 w w' := by
  unfold octet_TakeNum.f at h
  split at h
  · rename_i hh; exact T.octet_TakeNum.calls 22 a0 r1 r2 r3 w ((takeNum_T a0 hh 0).trans h)
  · cases h
def octet_TakeText.f (a0 : ByteArray) (a1 : Int) : Option (ByteArray × ByteArray × Int) := if a0.size ≤ 9223372036854775807 ∧ -9223372036854775808 ≤ a1 ∧ a1 ≤ 9223372036854775807 then some (outT (textL a0.data.toList a1)) else none
theorem octet_TakeText.calls (a0 : ByteArray) (a1 : Int) (r1 : ByteArray) (r2 : ByteArray) (r3 : Int) (w : World) (h : octet_TakeText.f a0 a1 = some (r1, r2, r3)) :
    Calls Try.prog 66 #[.string a0, .int .i64 a1] w fun e w' => e = .returned (.tuple #[.string r1, .string r2, .int .i64 r3]) ∧ Drawn0 w w' := by
  unfold octet_TakeText.f at h
  split at h
  · rename_i hh; exact T.octet_TakeText.calls 22 a0 a1 r1 r2 r3 w ((takeText_T a0 hh.1 a1 hh.2 0).trans h)
  · cases h
def loopL : Nat → List UInt8 → List (List UInt8) → Int → List (List UInt8) × List UInt8 × Int
  | 0, r, acc, _ => (acc, r, 0)
  | n + 1, r, acc, m => if (textL r m).2.2 = 0 then loopL n (textL r m).2.1 (acc ++ [(textL r m).1]) m else ([], [], (textL r m).2.2)
def listL (l : List UInt8) (most long : Int) : List (List UInt8) × List UInt8 × Int :=
  if (takeN 0 0 l).2.2 = 0 then (if most < 0 ∨ most < ((takeN 0 0 l).1 : Int) then ([], [], 5) else loopL (takeN 0 0 l).1 (takeN 0 0 l).2.1 [] long)
  else ([], [], (takeN 0 0 l).2.2)
def mks (l : List (List UInt8)) : List ByteArray := l.map fun x => ⟨x.toArray⟩
def outLs (p : List (List UInt8) × List UInt8 × Int) : List ByteArray × ByteArray × Int := (mks p.1, ⟨p.2.1.toArray⟩, p.2.2)
theorem textL_len (l : List UInt8) (m : Int) : (textL l m).2.2 = 0 → (textL l m).2.1.length < l.length := by
  intro h
  unfold textL at h ⊢
  have hl := takeN_len l 0 0
  split at h
  · rename_i h0
    rw [if_pos h0]
    have h1 := hl.2 h0
    split at h
    · cases h
    · rename_i h2
      split at h
      · cases h
      · rename_i h3
        rw [if_neg h2, if_neg h3]
        simp only [List.length_drop]; omega
  · rename_i h0; exact absurd h h0
end Go.Proofs.Ytgnmhbkialgeaaa
end

section
namespace Go.Proofs.Ytgnmhbkialgeaaa
open Go.RowKit Go.Proofs.YtgnmhbkialgeaaaW.PrintWords Go.Proofs.YtgnmhbkialgeaaaW.PrintLast Go.Proofs.YtgnmhbkialgeaaaW.PrintMore Math
def One (w : World) (b : Nat) (v : Value) (t : TypeId) : Prop := w.heap[b]? = some (.cells #[v] t (0, 0))
theorem One.cell {w : World} {b : Nat} {v : Value} {t : TypeId} (h : One w b v t) : w.cell? ⟨b, 0, none⟩ = some v := by simp [World.cell?, show w.heap[b]? = _ from h]
theorem One.free {w : World} {b : Nat} {v : Value} {t : TypeId} (h : One w b v t) : w.frozen? ⟨b, 0, none⟩ = false := by simp [World.frozen?, show w.heap[b]? = _ from h]
theorem One.lt {w : World} {b : Nat} {v : Value} {t : TypeId} (h : One w b v t) : b < w.heap.size := (Array.getElem?_eq_some_iff.1 h).1
theorem One.set {w : World} {b : Nat} {v u : Value} {t : TypeId} (h : One w b v t) : One (w.setCell ⟨b, 0, none⟩ u) b u t := by
 have := heap_setCell_same w b 0 #[v] t u h
 exact this
theorem One.far {w : World} {b c : Nat} {v u : Value} {t : TypeId} (h : One w b v t) (hne : b ≠ c) : One (w.setCell ⟨c, 0, none⟩ u) b v t := by
 unfold One; rw [heap_setCell_other w ⟨c, 0, none⟩ b u hne]; exact h
theorem One.keep {w w1 : World} {b B : Nat} {v : Value} {t : TypeId} (h : One w b v t) (hB : Below B w w1) (hb : b < B) : One w1 b v t := by
 unfold One; rw [hB.block b hb]; exact h
theorem own_far {w : World} {base n c : Nat} {e : TypeId} {v u : Value} {xs : List Value} (h : w.ownsRow base e 1 v n xs) (hc : c < base) : (w.setCell ⟨c, 0, none⟩ u).ownsRow base e 1 v n xs :=
 own_move h (fun k hk => heap_setCell_other w ⟨c, 0, none⟩ k u (by have := own_base h k hk; show k ≠ c; omega))
set_option maxHeartbeats 4000000 in
set_option maxRecDepth 1000000 in
theorem take_calls (B0 B1 B2 B3 base : Nat) (hB : B0 < B1 ∧ B1 < B2 ∧ B2 < B3 ∧ B3 < base) (r : List UInt8) (long e0 : Int) (v : Value) (xs : List ByteArray) (w : World)
  (h5 : One w B0 (.int .i64 long) 3) (h10 : One w B1 (.string ⟨r.toArray⟩) 9) (h11 : One w B2 (.int .i64 e0) 27) (h12 : One w B3 v 33)
  (ho : w.ownsRow base 9 1 v xs.length (strsV xs)) (hr : r.length ≤ 8000000000000) (hx : xs.length ≤ 8000000000000) (hl : -9223372036854775808 ≤ long ∧ long ≤ 9223372036854775807) (hbs : base ≤ w.heap.size) :
  Calls Try.prog 73 #[.pointer (some ⟨B1, 0, none⟩), .pointer (some ⟨B0, 0, none⟩), .pointer (some ⟨B3, 0, none⟩), .pointer (some ⟨B2, 0, none⟩)] w fun e w' =>
   e = .returned (.tuple #[]) ∧ ∃ v', One w' B0 (.int .i64 long) 3 ∧ One w' B1 (.string ⟨(textL r long).2.1.toArray⟩) 9 ∧ One w' B2 (.int .i64 (textL r long).2.2) 27 ∧ One w' B3 v' 33 ∧
    w'.ownsRow base 9 1 v' (xs ++ [(⟨(textL r long).1.toArray⟩ : ByteArray)]).length (strsV (xs ++ [(⟨(textL r long).1.toArray⟩ : ByteArray)])) ∧ Below B0 w w' := by
 have c5 := h5.cell; have c10 := h10.cell
 have hz := h12.lt
 have H5 := Lib.hid h5; have H10 := Lib.hid h10; have H11 := Lib.hid h11; have H12 := Lib.hid h12; have HO := Lib.hid ho
 clear h5 h10 h11 h12 ho
 go_enter Try.func73, Try.ntmps73
 go_wp2_with fail
 refine (octet_TakeText.calls ⟨r.toArray⟩ long ⟨(textL r long).1.toArray⟩ ⟨(textL r long).2.1.toArray⟩ (textL r long).2.2 _ (by unfold octet_TakeText.f; rw [if_pos ⟨by rw [mk_size]; omega, hl⟩]; rfl)).mono ?_
 rintro e w1 ⟨rfl, hd⟩
 have hb := hd.below
 have HB := Lib.hid (show Below B0 w w1 from hb.mono (by omega))
 have hz1 := hb.size
 have G5 := Lib.hid (H5.out.keep hb (by omega)); have G10 := Lib.hid (H10.out.keep hb (by omega)); have G11 := Lib.hid (H11.out.keep hb (by omega)); have G12 := Lib.hid (H12.out.keep hb (by omega)); have GO := Lib.hid (pw_own_below HO.out hb)
 have HR := Lib.hid (Below.refl base w1)
 clear hd hb c5 c10 H5 H10 H11 H12 HO
 have c12 := G12.out.cell
 go_wp2_with (at_builtin; go_must (refine print_append base rfl (.tmp 14) (.tmp 16) 33 9 (.string ⟨#[]⟩) 16 rfl Try.underlying33 info9 rfl (by decide) v (strsV xs) _ rfl rfl rfl (by rw [strsV_len]; exact GO.out) HR.out (by omega) (by rw [strsV_len]; omega) ?_); intro v1 w3 hown3 hb3 _ _; obtain ⟨A1, cap1, rfl⟩ := own_slice hown3; have HO3 := Lib.hid hown3; have HB3 := Lib.hid hb3; have hs3 := hb3.size; have K5 := Lib.hid (G5.out.keep hb3 (by omega)); have K10 := Lib.hid (G10.out.keep hb3 (by omega)); have K11 := Lib.hid (G11.out.keep hb3 (by omega)); have K12 := Lib.hid (G12.out.keep hb3 (by omega)); clear hown3 hb3 c12 G5 G10 G11 G12 GO HR; have d10 := K10.out.cell; have d11 := K11.out.cell; have d12 := K12.out.cell; have f10 := K10.out.free; have f11 := K11.out.free; have f12 := K12.out.free)
 go_end0
 refine ⟨rfl, .slice A1 ((strsV xs).length + 1) cap1, ?_, ?_, ?_, ?_, ?_, ?_⟩
 ·exact ((K5.out.far (by omega)).far (by omega)).far (by omega)
 ·exact ((K10.out.far (by omega)).set).far (by omega)
 ·exact ((K11.out.far (by omega)).far (by omega)).set
 ·exact ((K12.out.set).far (by omega)).far (by omega)
 ·have h := own_far (u := .int .i64 (textL r long).2.2) (c := B2) (own_far (u := .string ⟨(textL r long).2.1.toArray⟩) (c := B1) (own_far (u := .slice A1 ((strsV xs).length + 1) cap1) (c := B3) HO3.out (by omega)) (by omega)) (by omega)
  have e1 : strsV (xs ++ [(⟨(textL r long).1.toArray⟩ : ByteArray)]) = strsV xs ++ [Value.string ⟨(textL r long).1.toArray⟩] := by simp [strsV]
  have e2 : (xs ++ [(⟨(textL r long).1.toArray⟩ : ByteArray)]).length = (strsV xs ++ [Value.string ⟨(textL r long).1.toArray⟩]).length := by simp [strsV]
  rw [e1, e2]
  simpa using h
 ·exact (((HB.out.trans (HB3.out.mono (by omega))).setCell (by show B0 ≤ B3; omega) _).setCell (by show B0 ≤ B1; omega) _).setCell (by show B0 ≤ B2; omega) _
def octet_TakeList.f (a0 : ByteArray) (a1 a2 : Int) : Option (List ByteArray × ByteArray × Int) :=
 if a0.size ≤ 8000000000000 ∧ (-9223372036854775808 ≤ a1 ∧ a1 ≤ 9223372036854775807) ∧ (-9223372036854775808 ≤ a2 ∧ a2 ≤ 9223372036854775807) then some (outLs (listL a0.data.toList a1 a2)) else none
set_option maxHeartbeats 4000000 in
set_option maxRecDepth 1000000 in
theorem takeList_calls (s : ByteArray) (m long : Int) (w : World) (hs : s.size ≤ 8000000000000) (hm : -9223372036854775808 ≤ m ∧ m ≤ 9223372036854775807) (hl : -9223372036854775808 ≤ long ∧ long ≤ 9223372036854775807) :
  Calls Try.prog 67 #[.string s, .int .i64 m, .int .i64 long] w fun e w' => ∃ v0_ : Value, e = .returned (.tuple #[v0_, .string ⟨(listL s.data.toList m long).2.1.toArray⟩, .int .i64 (listL s.data.toList m long).2.2]) ∧ Kd.R Kd.string 9 w' w.heap.size (fun _ => True) v0_ (mks (listL s.data.toList m long).1) ∧ Below w.heap.size w w' := by
 have hn := takeN0_lt s.data.toList
 have hln := (takeN_len s.data.toList 0 0).1
 have HN := Lib.hid (takeN_len s.data.toList 0 0)
 obtain ⟨n, hn'⟩ : ∃ n, n = (takeN 0 0 s.data.toList).1 := ⟨_, rfl⟩
 obtain ⟨r, hr'⟩ : ∃ r, r = (takeN 0 0 s.data.toList).2.1 := ⟨_, rfl⟩
 obtain ⟨e0, he'⟩ : ∃ e, e = (takeN 0 0 s.data.toList).2.2 := ⟨_, rfl⟩
 have hout : octet_TakeNum.f s = some ((n : Int), (⟨r.toArray⟩ : ByteArray), e0) := by
  unfold octet_TakeNum.f takeNumS outN; rw [if_pos (by omega), hn', hr', he']
 have HL : listL s.data.toList m long = if e0 = 0 then (if m < 0 ∨ m < (n : Int) then ([], [], 5) else loopL n r [] long) else ([], [], e0) := by
  unfold listL; rw [hn', hr', he']
 rw [← hn'] at hn
 rw [← hr'] at hln
 have hrl : r.length ≤ 8000000000000 := by rw [← sz] at hln; omega
 clear hn' hr' he' hln HN
 rw [HL]
 clear HL
 have hN0 : ∀ w' : World, Below w.heap.size w w' → Kd.R Kd.string 9 w' w.heap.size (fun _ => True) (.slice none 0 0) (mks []) := fun w' _ => Kd.R_nil _ _ _ _ _
 have HN0 := Lib.hid hN0
 clear hN0
 by_cases he : e0 = 0
 ·subst he
  rw [if_pos rfl]
  by_cases hm0 : m < 0 ∨ m < (n : Int)
  ·rw [if_pos hm0]
   by_cases hm1 : m < 0
   ·have hm2 : decide (m < 0) = true := decide_eq_true hm1
    clear hm0 hm1
    go_enter Try.func67, Try.ntmps67
    go_wp2_with fail
    refine (octet_TakeNum.calls s _ _ _ _ hout).mono ?_
    rintro e w1 ⟨rfl, hd⟩
    have hb := Lib.hid (hd.below)
    have hz := hd.below.size
    clear hd hout
    go_wp2_with fail
    go_ret3
    have HB := (((Below.refl w.heap.size w).alloc (Nat.le_refl _) (.cells #[.int .i64 long] 3)).trans (hb.out.mono (by simp)))
    have hz2 : w.heap.size ≤ w1.heap.size := HB.size
    have HB2 := (HB.alloc hz2 (.cells #[.string ⟨r.toArray⟩] 9)).alloc (by simp; omega) (.cells #[.int .i64 0] 27)
    exact ⟨_, rfl, HN0.out _ HB2, HB2⟩
   ·have hm2 : decide (m < 0) = false := decide_eq_false hm1
    have hmw : IntKind.u64.wrap m = m := by rw [IntKind.wrap_u64]; omega
    have hmw2 : m % 18446744073709551616 = m := by omega
    have hm3 : decide (m < (n : Int)) = true := decide_eq_true (by omega)
    clear hm0 hm1
    go_enter Try.func67, Try.ntmps67
    go_wp2_with fail
    refine (octet_TakeNum.calls s _ _ _ _ hout).mono ?_
    rintro e w1 ⟨rfl, hd⟩
    have hb := Lib.hid (hd.below)
    have hz := hd.below.size
    clear hd hout
    go_wp2_with fail
    go_ret3
    have HB := (((Below.refl w.heap.size w).alloc (Nat.le_refl _) (.cells #[.int .i64 long] 3)).trans (hb.out.mono (by simp)))
    have hz2 : w.heap.size ≤ w1.heap.size := HB.size
    have HB2 := (HB.alloc hz2 (.cells #[.string ⟨r.toArray⟩] 9)).alloc (by simp; omega) (.cells #[.int .i64 0] 27)
    exact ⟨_, rfl, HN0.out _ HB2, HB2⟩
  ·rw [if_neg hm0]
   have hm2 : decide (m < 0) = false := decide_eq_false (by omega)
   have hmw : IntKind.u64.wrap m = m := by rw [IntKind.wrap_u64]; omega
   have hmw2 : m % 18446744073709551616 = m := by omega
   have hm3 : decide (m < (n : Int)) = false := decide_eq_false (by omega)
   clear hm0
   obtain ⟨RES, hRES⟩ : ∃ RES, RES = loopL n r [] long := ⟨_, rfl⟩
   have HRES := Lib.hid hRES
   rw [← hRES]
   clear hRES
   go_enter Try.func67, Try.ntmps67
   go_wp2_with fail
   refine (octet_TakeNum.calls s _ _ _ _ hout).mono ?_
   rintro e w1 ⟨rfl, hd⟩
   have hb := Lib.hid (hd.below)
   have hz : w1.heap.size = w.heap.size + 1 := by obtain ⟨q, rfl⟩ := hd.out; simp
   clear hd hout
   go_wp2_with fail
   have HB0 := Lib.hid (((((Below.refl w.heap.size w).alloc (Nat.le_refl _) (.cells #[.int .i64 long] 3)).trans (hb.out.mono (by simp))).alloc (by omega) (.cells #[.string ⟨r.toArray⟩] 9)).alloc (by simp; omega) (.cells #[.int .i64 0] 27) |>.alloc (by simp; omega) (.cells #[.slice none 0 0] 33))
   have O5 : One w1 w.heap.size (.int .i64 long) 3 := One.keep (B := w.heap.size + 1) (heap_alloc_new w _) (by have := hb.out; simpa using this) (by omega)
   have hW : ∀ W, W = ((w1.alloc (.cells #[.string ⟨r.toArray⟩] 9)).alloc (.cells #[.int .i64 0] 27)).alloc (.cells #[.slice none 0 0] 33) →
     One W w.heap.size (.int .i64 long) 3 ∧ One W (w.heap.size + 1) (.string ⟨r.toArray⟩) 9 ∧ One W (w.heap.size + 1 + 1) (.int .i64 0) 27 ∧ One W (w.heap.size + 1 + 1 + 1) (.slice none 0 0) 33 ∧ W.heap.size = w.heap.size + 1 + 1 + 1 + 1 := by
    intro W hW
    subst hW
    refine ⟨?_, ?_, ?_, ?_, ?_⟩
    ·exact (heap_alloc_old _ _ (by simp; omega)).trans ((heap_alloc_old _ _ (by simp; omega)).trans ((heap_alloc_old _ _ (by omega)).trans O5))
    ·have h := heap_alloc_new w1 (.cells #[.string ⟨r.toArray⟩] 9)
     rw [hz] at h
     exact (heap_alloc_old _ _ (by simp; omega)).trans ((heap_alloc_old _ _ (by simp; omega)).trans h)
    ·have h := heap_alloc_new (w1.alloc (.cells #[.string ⟨r.toArray⟩] 9)) (.cells #[.int .i64 0] 27)
     rw [show (w1.alloc (.cells #[.string ⟨r.toArray⟩] 9)).heap.size = w.heap.size + 1 + 1 from by simp; omega] at h
     exact (heap_alloc_old _ _ (by simp; omega)).trans h
    ·have h := heap_alloc_new ((w1.alloc (.cells #[.string ⟨r.toArray⟩] 9)).alloc (.cells #[.int .i64 0] 27)) (.cells #[.slice none 0 0] 33)
     rw [show ((w1.alloc (.cells #[.string ⟨r.toArray⟩] 9)).alloc (.cells #[.int .i64 0] 27)).heap.size = w.heap.size + 1 + 1 + 1 from by simp; omega] at h
     exact h
    ·simp; omega
   generalize hWd : ((w1.alloc (.cells #[.string ⟨r.toArray⟩] 9)).alloc (.cells #[.int .i64 0] 27)).alloc (.cells #[.slice none 0 0] 33) = W at *
   have hW := hW W rfl
   obtain ⟨h5, h10, h11, h12, hsz⟩ := hW
   have H5 := Lib.hid h5; have H10 := Lib.hid h10; have H11 := Lib.hid h11; have H12 := Lib.hid h12; have HSZ := Lib.hid hsz
   clear h5 h10 h11 h12 hsz hWd O5 hb hz
   go_loopg [9] n (fun g v9 wx => ∃ (rr : List UInt8) (acc : List (List UInt8)) (e : Int) (v : Value), v9 = .int .u64 g ∧ Hid (One wx w.heap.size (.int .i64 long) 3) ∧ Hid (One wx (w.heap.size + 1) (.string ⟨rr.toArray⟩) 9) ∧ Hid (One wx (w.heap.size + 1 + 1) (.int .i64 e) 27) ∧ Hid (One wx (w.heap.size + 1 + 1 + 1) v 33) ∧
    Hid (wx.ownsRow (w.heap.size + 1 + 1 + 1 + 1) 9 1 v (mks acc).length (strsV (mks acc))) ∧ Hid (w.heap.size + 1 + 1 + 1 + 1 ≤ wx.heap.size) ∧ Hid (Below w.heap.size w wx) ∧ g < 18446744073709551616 ∧
    Hid (e = 0 → loopL g rr acc long = RES ∧ acc.length + rr.length ≤ 8000000000000) ∧ Hid (e ≠ 0 → RES = ([], [], e)))
   case atStart => exact ⟨r, [], 0, .slice none 0 0, rfl, H5, H10, H11, H12, Lib.hid (own_nil _ _ _ _), Lib.hid (by rw [HSZ.out]; exact Nat.le_refl _), HB0, hn, Lib.hid (fun _ => ⟨HRES.out.symm, by simpa using hrl⟩), Lib.hid (fun h => absurd rfl h)⟩
   case round =>
    clear H5 H10 H11 H12 HSZ HB0 HRES
    obtain ⟨rr, acc, e, v, rfl, H5, H10, H11, H12, HO, HS, HB, hg, HE0, HE1⟩ := hrel
    have c10 := H10.out.cell; have c11 := H11.out.cell; have c12 := H12.out.cell
    obtain ⟨Av, cv, rfl⟩ := own_slice HO.out
    by_cases he : e = 0
    ·subst he
     have hE := HE0.out rfl
     have HE := Lib.hid hE
     have hac : acc.length ≤ 8000000000000 := by omega
     have hrr : rr.length ≤ 8000000000000 := by omega
     clear hE HE0 HE1
     cases gk with
     | zero =>
      have hgz : decide ((0 : Int) < 0) = false := by decide
      obtain rfl : RES = (acc, rr, 0) := HE.out.1.symm
      go_wp2_with fail
      go_quiet (fail)
      go_wp2_with fail
      go_ret3
      exact ⟨_, rfl, Kd.R_of_own (pw_own_below (own_weaken HO.out (by omega)) (pw_below_drewN (Below.refl _ _) _)) (fun _ _ => trivial), pw_below_drewN HB.out _⟩
     | succ g =>
      have hgz : (0 : Int) < ((g + 1 : Nat) : Int) := by omega
      have hgw : ((g + 1 : Nat) : Int) - 1 = (g : Int) := by omega
      go_wp2_with fail
      refine (take_calls w.heap.size (w.heap.size + 1) (w.heap.size + 1 + 1) (w.heap.size + 1 + 1 + 1) (w.heap.size + 1 + 1 + 1 + 1) (by omega) rr long 0 (.slice Av (mks acc).length cv) (mks acc) _ H5.out H10.out H11.out H12.out HO.out hrr (by simpa [mks] using hac) hl HS.out).mono ?_
      rintro e w2 ⟨rfl, v', K5, K10, K11, K12, KO, KB⟩
      have J5 := Lib.hid K5; have J10 := Lib.hid K10; have J11 := Lib.hid K11; have J12 := Lib.hid K12; have JO := Lib.hid KO; have JB := Lib.hid KB
      clear K5 K10 K11 K12 KO KB c10 c11 c12
      go_wp2_with fail
      go_roundg g
      case measure => omega
      case rel =>
       have hL : loopL (g + 1) rr acc long = if (textL rr long).2.2 = 0 then loopL g (textL rr long).2.1 (acc ++ [(textL rr long).1]) long else ([], [], (textL rr long).2.2) := rfl
       have hlen := textL_len rr long
       refine ⟨(textL rr long).2.1, acc ++ [(textL rr long).1], (textL rr long).2.2, v', by go_num, J5, J10, J11, J12, ?_, Lib.hid (by have := HS.out; have := JB.out.size; omega), Lib.hid (HB.out.trans JB.out), by omega, Lib.hid (fun h0 => ?_), Lib.hid (fun h0 => ?_)⟩
       ·have e1 : mks (acc ++ [(textL rr long).1]) = mks acc ++ [(⟨(textL rr long).1.toArray⟩ : ByteArray)] := by simp [mks]
        rw [e1]; exact JO
       ·have h1 := HE.out.1
        rw [hL, if_pos h0] at h1
        have h2 := hlen h0
        have h3 := HE.out.2
        refine ⟨h1, ?_⟩
        rw [List.length_append]
        simp only [List.length_cons, List.length_nil]
        omega
       ·have h1 := HE.out.1
        rw [hL, if_neg h0] at h1
        exact h1.symm
    ·have heb : (e == 0) = false := by simpa using he
     have hen : (e != 0) = true := by simpa using he
     obtain rfl := HE1.out he
     clear he HE0 HE1
     go_wp2_with fail
     all_goals (go_quiet (fail); go_wp2_with fail; go_ret3; exact ⟨_, rfl, Kd.R_nil _ _ _ _ _, pw_below_drewN HB.out _⟩)
 ·rw [if_neg he]
  have heb : (e0 != 0) = true := by simpa using he
  clear he
  go_enter Try.func67, Try.ntmps67
  go_wp2_with fail
  refine (octet_TakeNum.calls s _ _ _ _ hout).mono ?_
  rintro e w1 ⟨rfl, hd⟩
  have hb := Lib.hid (hd.below)
  have hz := hd.below.size
  clear hd hout
  go_wp2_with fail
  go_quiet (fail)
  go_wp2_with fail
  go_ret3
  have HB := (((Below.refl w.heap.size w).alloc (Nat.le_refl _) (.cells #[.int .i64 long] 3)).trans (hb.out.mono (by simp)))
  have hz2 : w.heap.size ≤ w1.heap.size := HB.size
  have HB2 := (HB.alloc hz2 (.cells #[.string ⟨r.toArray⟩] 9)).alloc (by simp; omega) (.cells #[.int .i64 e0] 27)
  exact ⟨_, rfl, HN0.out _ (pw_below_drewN HB2 _), pw_below_drewN HB2 _⟩
theorem octet_TakeList.calls (a0 : ByteArray) (a1 : Int) (a2 : Int) (r1 : List ByteArray) (r2 : ByteArray) (r3 : Int) (w : World) (h : octet_TakeList.f a0 a1 a2 = some (r1, r2, r3)) :
  Calls Try.prog 67 #[.string a0, .int .i64 a1, .int .i64 a2] w fun e w' => ∃ v0_ : Value, e = .returned (.tuple #[v0_, .string r2, .int .i64 r3]) ∧ Kd.R Kd.string 9 w' w.heap.size (fun _ => True) v0_ r1 ∧ Below w.heap.size w w' := by
 unfold octet_TakeList.f at h
 split at h
 ·rename_i hh
  have h2 := Option.some.inj h
  obtain ⟨rfl, rfl, rfl⟩ : mks (listL a0.data.toList a1 a2).1 = r1 ∧ (⟨(listL a0.data.toList a1 a2).2.1.toArray⟩ : ByteArray) = r2 ∧ (listL a0.data.toList a1 a2).2.2 = r3 := by
   unfold outLs at h2
   simp only [Prod.mk.injEq] at h2
   exact h2
  exact takeList_calls a0 a1 a2 w hh.1 hh.2.1 hh.2.2
 ·cases h
end Go.Proofs.Ytgnmhbkialgeaaa
end

section
namespace Go.Proofs.Ytgnmhbkialgeaaa
open Go.RowKit Math
def numB (n : Nat) : List UInt8 := (numL n).map fun x => UInt8.ofNat x.toNat
theorem numS_dl (n : Nat) : (numS n).data.toList = numB n := rfl
theorem numB_lo {n : Nat} (h : ¬ 128 ≤ n) : numB n = [UInt8.ofNat n] := by rw [numB, numL_lo h]; simp
theorem numB_hi {n : Nat} (h : 128 ≤ n) : numB n = UInt8.ofNat (n % 128 + 128) :: numB (n / 128) := by rw [numB, numL_hi h]; rfl
theorem ofNat_toNat {n : Nat} (h : n < 256) : (UInt8.ofNat n).toNat = n := by rw [UInt8.toNat_ofNat']; omega
theorem numB_len {n : Nat} (h : n < 18446744073709551616) : (numB n).length ≤ 10 := by rw [numB, List.length_map]; exact numL_len10 h
theorem pow7 (a : Nat) : 2 ^ (7 * (a + 1)) = 128 * 2 ^ (7 * a) := by rw [show 7 * (a + 1) = 7 * a + 7 from by omega, Nat.pow_add]; omega
theorem take_num (n : Nat) : ∀ (a acc : Nat) (m : List UInt8), (1 ≤ a → 1 ≤ n) → n * 2 ^ (7 * a) < 18446744073709551616 → takeN a acc (numB n ++ m) = (acc + n * 2 ^ (7 * a), m, 0) := by
  induction n using Nat.strongRecOn with
  | _ n ih =>
    intro a acc m ha hn
    have ha9 : a ≤ 9 := by
      rcases Nat.lt_or_ge 9 a with h | h
      · have h1 := ha (by omega)
        have h2 : 2 ^ 70 ≤ 2 ^ (7 * a) := Nat.pow_le_pow_right (by decide) (by omega)
        have h3 : 1 * 2 ^ (7 * a) ≤ n * 2 ^ (7 * a) := Nat.mul_le_mul_right _ h1
        omega
      · exact h
    by_cases h : 128 ≤ n
    · rw [numB_hi h, List.cons_append]
      have hc : (UInt8.ofNat (n % 128 + 128)).toNat = n % 128 + 128 := ofNat_toNat (by omega)
      rw [tk_go ha9 (by rw [hc]; omega), hc]
      have e : n * 2 ^ (7 * a) = n % 128 * 2 ^ (7 * a) + n / 128 * 2 ^ (7 * (a + 1)) := by
        rw [pow7, ← Nat.mul_assoc, ← Nat.add_mul]
        congr 1; omega
      rw [ih (n / 128) (by omega) (a + 1) _ m (by omega) (by omega)]
      rw [show (n % 128 + 128) % 128 = n % 128 from by omega]
      congr 1
      omega
    · rw [numB_lo h, List.cons_append, List.nil_append]
      have hc : (UInt8.ofNat n).toNat = n := ofNat_toNat (by omega)
      rw [tk_ok ha9 (by rw [hc]; omega) (by
        rw [hc]
        rintro (⟨h1, h2⟩ | ⟨h1, h2⟩)
        · have := ha h1; omega
        · subst h1
          have : 2 * 2 ^ (7 * 9) ≤ n * 2 ^ (7 * 9) := Nat.mul_le_mul_right _ h2
          omega), hc]
theorem take_num0 {n : Nat} (h : n < 18446744073709551616) (m : List UInt8) : takeN 0 0 (numB n ++ m) = (n, m, 0) := by
  have := take_num n 0 0 m (by omega) (by simpa using h)
  simpa using this
def textB (t : List UInt8) : List UInt8 := numB t.length ++ t
theorem textS_dl (s : ByteArray) : (textS s).data.toList = textB s.data.toList := by rw [textS, app, numS_dl, textB, ← sz]
theorem text_take (t m : List UInt8) (long : Int) (hl : (t.length : Int) ≤ long) (ht : t.length < 18446744073709551616) : textL (textB t ++ m) long = (t, m, 0) := by
  unfold textL textB
  rw [List.append_assoc, take_num0 ht]
  dsimp only
  rw [if_pos rfl, if_neg (by omega), if_neg (by simp), List.take_left', List.drop_left'] <;> rfl
def listB (l : List (List UInt8)) : List UInt8 := numB l.length ++ (l.map textB).flatten
def lists (l : List ByteArray) : List (List UInt8) := l.map (·.data.toList)
theorem listS_dl (l : List ByteArray) : (listS l).data.toList = listB (lists l) := by
  unfold listS joinS listP listB lists
  show flat _ = _
  rw [List.take_length, flat, List.map_cons, List.flatten_cons, numS_dl, List.length_map]
  congr 2
  rw [List.map_map, List.map_map]
  exact List.map_congr_left fun s _ => textS_dl s
end Go.Proofs.Ytgnmhbkialgeaaa
end

section
namespace Go.Proofs.Ytgnmhbkialgeaaa
open Go.RowKit Go.Proofs.YtgnmhbkialgeaaaW.PrintWords Go.Proofs.YtgnmhbkialgeaaaW.PrintLast Go.Proofs.YtgnmhbkialgeaaaW.PrintMore Math
theorem not64 {a : Nat} (h : a < 18446744073709551616) : a ^^^ 18446744073709551615 = 18446744073709551615 - a := by
  have h1 : (BitVec.ofNat 64 a ^^^ BitVec.allOnes 64).toNat = (~~~ BitVec.ofNat 64 a).toNat := by rw [BitVec.xor_allOnes]
  rw [BitVec.toNat_xor, BitVec.toNat_not, BitVec.toNat_allOnes, BitVec.toNat_ofNat, Nat.mod_eq_of_lt (by omega)] at h1
  exact h1
def foldN (n : Int) : Nat := if 0 ≤ n then (2 * n).toNat else (-2 * n - 1).toNat
theorem foldN_lt {n : Int} (h : -9223372036854775808 ≤ n ∧ n ≤ 9223372036854775807) : foldN n < 18446744073709551616 := by unfold foldN; split <;> omega
theorem xor_m1 {a : Nat} (h : a < 9223372036854775808) : Go.bits .xor .i64 (a : Int) (-1) = -1 - (a : Int) := by
  unfold Go.bits
  dsimp only
  have e : (BitVec.ofInt IntKind.i64.bits (a : Int) ^^^ BitVec.ofInt IntKind.i64.bits (-1)).toNat = 18446744073709551615 - a := by
    show (BitVec.ofInt 64 (a : Int) ^^^ BitVec.ofInt 64 (-1)).toNat = _
    rw [BitVec.toNat_xor, show (BitVec.ofInt 64 (-1)).toNat = 18446744073709551615 from by decide, show (BitVec.ofInt 64 (a : Int)).toNat = a from by rw [BitVec.ofInt_natCast, BitVec.toNat_ofNat]; omega]
    exact not64 (by omega)
  rw [e, IntKind.wrap_i64]
  omega
theorem xor_0 {a : Nat} (h : a < 9223372036854775808) : Go.bits .xor .i64 (a : Int) 0 = (a : Int) := by
  unfold Go.bits
  dsimp only
  have e : (BitVec.ofInt IntKind.i64.bits (a : Int) ^^^ BitVec.ofInt IntKind.i64.bits 0).toNat = a := by
    show (BitVec.ofInt 64 (a : Int) ^^^ BitVec.ofInt 64 0).toNat = _
    rw [BitVec.toNat_xor, show (BitVec.ofInt 64 0).toNat = 0 from by decide, show (BitVec.ofInt 64 (a : Int)).toNat = a from by rw [BitVec.ofInt_natCast, BitVec.toNat_ofNat]; omega]
    exact Nat.xor_zero a
  rw [e, IntKind.wrap_i64]
  omega
def unfoldN (m : Nat) : Int := if m % 2 = 0 then ((m / 2 : Nat) : Int) else -1 - ((m / 2 : Nat) : Int)
theorem unfold_fold {n : Int} : unfoldN (foldN n) = n := by
  unfold unfoldN foldN
  by_cases h : 0 ≤ n
  · rw [if_pos h, if_pos (by omega)]; omega
  · rw [if_neg h, if_neg (by omega)]; omega
theorem fold_T {n : Int} (h : -9223372036854775808 ≤ n ∧ n ≤ 9223372036854775807) : T.octet_Fold.f n = some ((foldN n : Nat) : Int) := by
  unfold T.octet_Fold.f foldN
  congr 1
  rw [IntKind.wrap_u64, IntKind.wrap_u64, IntKind.wrap_u64]
  by_cases h0 : 0 ≤ n
  · rw [if_pos h0, show n / 9223372036854775808 % 18446744073709551616 = ((0 : Nat) : Int) from by omega, show n % 18446744073709551616 * 2 % 18446744073709551616 = (((2 * n).toNat : Nat) : Int) from by omega, u64_xor_nat _ _ (by omega) (by decide), Nat.xor_zero]
  · rw [if_neg h0, show n / 9223372036854775808 % 18446744073709551616 = ((18446744073709551615 : Nat) : Int) from by omega, show n % 18446744073709551616 * 2 % 18446744073709551616 = (((2 * n + 18446744073709551616).toNat : Nat) : Int) from by omega, u64_xor_nat _ _ (by omega) (by decide), not64 (by omega)]
    omega
theorem unfold_T {m : Nat} (h : m < 18446744073709551616) : T.octet_Unfold.f (m : Int) = some (unfoldN m) := by
  unfold T.octet_Unfold.f unfoldN
  congr 1
  have e1 : Go.bits .and .u64 (m : Int) 1 = ((m % 2 : Nat) : Int) := by
    have := u64_and_nat m 1 h (by decide)
    rw [nat_mask1] at this
    exact this
  rw [e1, w64 (n := (m : Int) / 2) (by omega) (by omega), show ((m : Int) / 2) = ((m / 2 : Nat) : Int) from by omega, w64 (n := ((m % 2 : Nat) : Int)) (by omega) (by omega)]
  by_cases h0 : m % 2 = 0
  · rw [if_pos h0, h0, w64 (by decide) (by decide)]
    exact xor_0 (by omega)
  · rw [if_neg h0, show m % 2 = 1 from by omega, w64 (by decide) (by decide)]
    exact xor_m1 (by omega)
end Go.Proofs.Ytgnmhbkialgeaaa
end

section
namespace Go.Proofs
open Go.Shelf
theorem Try.lays166_b : Go.Proofs.Lays.n166 Try.prog Try.lays156_ren := {
  mixed := by kernel_rfl
  f166 := Try.func48.trans (congrArg some (by kernel_rfl))
  f240 := Try.func68.trans (congrArg some (by kernel_rfl))
  f276 := Try.func74.trans (congrArg some (by kernel_rfl))
  t0 := Try.underlying0
  a0 := Try.isAgg0
  z0 := Try.sizeOf0
  v0 := Try.zeroValue0
  t3 := Try.underlying3
  a3 := Try.isAgg3
  z3 := Try.sizeOf3
  v3 := Try.zeroValue3
  t4 := Try.underlying4
  a4 := Try.isAgg4
  z4 := Try.sizeOf4
  v4 := Try.zeroValue4
  t9 := Try.underlying9
  a9 := Try.isAgg9
  z9 := Try.sizeOf9
  v9 := Try.zeroValue9
  t20 := Try.underlying20
  a20 := Try.isAgg20
  z20 := Try.sizeOf20
  v20 := Try.zeroValue20
  t37 := Try.underlying59
  a37 := Try.isAgg59
  z37 := Try.sizeOf59
  v37 := Try.zeroValue59
  t70 := Try.underlying88
  a70 := Try.isAgg88
  z70 := Try.sizeOf88
  v70 := Try.zeroValue88
  t72 := Try.underlying90
  a72 := Try.isAgg90
  z72 := Try.sizeOf90
  v72 := Try.zeroValue90
  t75 := Try.underlying92
  a75 := Try.isAgg92
  z75 := Try.sizeOf92
  v75 := Try.zeroValue92
  t164 := Try.underlying123
  a164 := Try.isAgg123
  z164 := Try.sizeOf123
  v164 := Try.zeroValue123 }
end Go.Proofs
end

section
namespace Go.Proofs.Ytgnmhbkialgeaaa
open Go.RowKit Go.Proofs.YtgnmhbkialgeaaaW.PrintWords Math
theorem sb_write (B b : Nat) (bs : List Value) (s : ByteArray) (w : World) (h : Lib.IsBuilder 90 5 B b bs w) (hlen : bs.length + s.size ≤ 140737488355328) (hBw : B ≤ w.heap.size) :
    Calls Try.prog 48 #[.pointer (some ⟨b, 0, none⟩), .string s] w fun e w' => e = .returned (.tuple #[.int .i64 s.size, .nilIface]) ∧ (Lib.BuilderAt 90 5 B b (.pointer (some ⟨b, 0, none⟩)) (bs ++ Lib.strCells s) w' ∧ Below B w w') :=
  Any.Builder_WriteString Try.lays166_b Try.Builder_Extra_156 B b bs s w h hlen hBw
theorem sb_string (B b : Nat) (l : List UInt8) (w : World) (h : Lib.IsBuilder 90 5 B b (Lib.byteCells l) w) (hBw : B ≤ w.heap.size) :
    Calls Try.prog 51 #[.pointer (some ⟨b, 0, none⟩)] w fun e w' => e = .returned (.string ⟨l.toArray⟩) ∧ Below B w w' := Try.Builder_String_any B b l w h hBw
theorem sb_keep {B b : Nat} {bs : List Value} {p : Value} {W V : World} (h : Lib.BuilderAt 90 5 B b p bs W) (hb : Below W.heap.size W V) : Lib.BuilderAt 90 5 B b p bs V := by
  obtain ⟨h1, v, h2, h3, h4⟩ := h
  exact ⟨h1, v, (hb.block b (Array.getElem?_eq_some_iff.1 h2).1).trans h2, pw_own_below h3 hb, h4⟩
theorem isb_keep {B b : Nat} {bs : List Value} {W V : World} (h : Lib.IsBuilder 90 5 B b bs W) (hb : Below W.heap.size W V) : Lib.IsBuilder 90 5 B b bs V := by
  rcases h with h | h
  · exact .inl (sb_keep h hb)
  · exact .inr (sb_keep h hb)
def numsB (l : List Int) : List UInt8 := (l.map fun n => numB (foldN n)).flatten
def numsS (l : List Int) : ByteArray := ⟨(numsB l).toArray⟩
theorem numsB_snoc (l : List Int) (n : Int) : numsB (l ++ [n]) = numsB l ++ numB (foldN n) := by simp [numsB]
theorem numsB_len (l : List Int) (h : ∀ n ∈ l, -9223372036854775808 ≤ n ∧ n ≤ 9223372036854775807) : (numsB l).length ≤ 10 * l.length := by
  induction l with
  | nil => simp [numsB]
  | cons a l ih =>
    have h1 := numB_len (foldN_lt (h a List.mem_cons_self))
    have h2 := ih (fun n hn => h n (List.mem_cons_of_mem _ hn))
    simp only [numsB, List.map_cons, List.flatten_cons, List.length_append, List.length_cons] at h2 ⊢
    omega
set_option maxHeartbeats 4000000 in
set_option maxRecDepth 1000000 in
theorem nums_calls (A : Option Addr) (c : Nat) (l : List Int) (w : World) (hr : Kd.C (Kd.int .i64) w A l.length l) (hl : l.length ≤ 1000000) (hi : ∀ n ∈ l, -9223372036854775808 ≤ n ∧ n ≤ 9223372036854775807) :
    Calls Try.prog 27 #[.slice A l.length c] w fun e w' => e = .returned (.string (numsS l)) ∧ Below w.heap.size w w' := by
  have hbx : Lib.IsBuilder 90 5 w.heap.size w.heap.size (Lib.byteCells (numsB (l.take 0))) (w.alloc (.cells #[.pointer none, .slice none 0 0] 90)) := Lib.fresh_isBuilder _ _ w
  have HBX := Lib.hid hbx
  have HB0 := Lib.hid ((Below.refl w.heap.size w).alloc (Nat.le_refl _) (.cells #[.pointer none, .slice none 0 0] 90))
  have HR := Lib.hid hr
  have HI := Lib.hid hi
  clear hr hi hbx
  go_enter Try.func27, Try.ntmps27
  go_wp2_with fail
  go_loopg [8] l.length (fun g v8 wx => ∃ i : Nat, i + g = l.length ∧ v8 = .int .i64 i ∧ Hid (Lib.IsBuilder 90 5 w.heap.size w.heap.size (Lib.byteCells (numsB (l.take i))) wx) ∧ Hid (Below w.heap.size w wx))
  case atStart => exact ⟨0, by omega, rfl, HBX, HB0⟩
  case round =>
    clear HBX HB0
    obtain ⟨i, hig, rfl, HS, HB⟩ := hrel
    cases gk with
    | zero =>
      obtain rfl : i = l.length := by omega
      have hiz : ¬ ((l.length : Int) < (l.length : Int)) := by omega
      clear hig
      go_wp2_with fail
      refine (sb_string _ _ _ _ HS.out HB.out.size).mono ?_
      rintro e w2 ⟨rfl, hb2⟩
      have HB2 := Lib.hid (HB.out.trans hb2)
      clear hb2
      go_wp2
      go_ret
      exact ⟨rfl, HB2.out⟩
    | succ g =>
      have hi : i < l.length := by omega
      have hiz : (i : Int) < (l.length : Int) := by omega
      obtain ⟨ad, rfl, hcell⟩ := Kd.at_int HR.out (i : Int) (by omega) (by omega)
      rw [Int.toNat_natCast] at hcell
      have hc1 := pw_cell_below (w1 := wr) HB.out hcell
      have HIN := Lib.hid (HI.out (rd l i) (by unfold rd; rw [Int.toNat_natCast, List.getD_eq_getElem?_getD, List.getElem?_eq_getElem hi]; exact List.getElem_mem hi))
      have HSN := Lib.hid (show numsB (l.take (i + 1)) = numsB (l.take i) ++ numB (foldN (rd l i)) by
        rw [List.take_succ_eq_append_getElem hi, numsB_snoc]; unfold rd; rw [Int.toNat_natCast, List.getD_eq_getElem?_getD, List.getElem?_eq_getElem hi]; rfl)
      have HLN := Lib.hid (show (numsB (l.take i)).length ≤ 10 * l.length by
        have h1 := numsB_len (l.take i) (fun n hn => HI.out n (List.mem_of_mem_take hn)); rw [List.length_take] at h1; omega)
      clear hcell
      generalize rd l i = x at *
      have HF := Lib.hid (fun V => T.octet_Fold.calls x _ V (fold_T HIN.out))
      have HN := Lib.hid (fun V => num_calls (foldN x) (foldN_lt HIN.out) V)
      have HSZ := Lib.hid (numS_size10 (foldN_lt HIN.out))
      have HDL := Lib.hid (numS_dl (foldN x))
      generalize numS (foldN x) = sx at *
      generalize foldN x = fx at *
      go_wp2_with fail
      refine (HF.out _).mono ?_
      rintro e w2 ⟨rfl, hd⟩
      have HB2 := Lib.hid (HB.out.trans (hd.below.mono HB.out.size))
      have HS2 := Lib.hid (isb_keep HS.out hd.below)
      clear hd
      go_wp2_with fail
      refine (HN.out _).mono ?_
      rintro e w3 ⟨rfl, hb3⟩
      have HB3 := Lib.hid (HB2.out.trans (hb3.mono HB2.out.size))
      have HS3 := Lib.hid (isb_keep HS2.out hb3)
      clear hb3
      go_wp2_with fail
      refine (sb_write _ _ _ sx _ HS3.out (by rw [Lib.byteCells_length]; have := HLN.out; have := HSZ.out; omega) HB3.out.size).mono ?_
      rintro e w4 ⟨rfl, hs4, hb4⟩
      have HB4 := Lib.hid (HB3.out.trans hb4)
      have HS4 : Hid (Lib.IsBuilder 90 5 w.heap.size w.heap.size (Lib.byteCells (numsB (l.take (i + 1)))) w4) := Lib.hid (by
        rw [HSN.out, Lib.byteCells_append, ← HDL.out, ← Lib.strCells_eq]; exact .inr hs4)
      clear hs4 hb4
      go_wp2
      go_roundg g
      case measure => omega
      case rel => exact ⟨i + 1, by omega, by go_num, HS4, HB4⟩
end Go.Proofs.Ytgnmhbkialgeaaa
end

section
namespace Go.Proofs.Ytgnmhbkialgeaaa
open Go.RowKit Go.Proofs.YtgnmhbkialgeaaaW.PrintWords Math
def numR (s : List UInt8) (e : Int) : Int × List UInt8 × Int := if e = 0 then (unfoldN (takeN 0 0 s).1, (takeN 0 0 s).2.1, (takeN 0 0 s).2.2) else (0, s, e)
def textR (s : List UInt8) (e : Int) : List UInt8 × List UInt8 × Int := if e = 0 then textL s 4096 else ([], s, e)
def textsR (s : List UInt8) (e : Int) : List (List UInt8) × List UInt8 × Int := if e = 0 then listL s 256 32 else ([], s, e)
def TB (W : World) (b : Nat) (s : List UInt8) (e : Int) : Prop := W.heap[b]? = some (.cells #[.string ⟨s.toArray⟩, .int .i64 e] 68 (0, 0))
theorem TB.c0 {W : World} {b : Nat} {s : List UInt8} {e : Int} (h : TB W b s e) : W.cell? ⟨b, 0, none⟩ = some (.string ⟨s.toArray⟩) := by rw [blk_cell h]; rfl
theorem TB.c1 {W : World} {b : Nat} {s : List UInt8} {e : Int} (h : TB W b s e) : W.cell? ⟨b, 1, none⟩ = some (.int .i64 e) := by rw [blk_cell h]; rfl
theorem TB.f {W : World} {b : Nat} {s : List UInt8} {e : Int} (h : TB W b s e) (i : Nat) : W.frozen? ⟨b, i, none⟩ = false := blk_frozen h i
theorem TB.lt {W : World} {b : Nat} {s : List UInt8} {e : Int} (h : TB W b s e) : b < W.heap.size := blk_lt h
theorem TB.below {W V : World} {b : Nat} {s : List UInt8} {e : Int} (h : TB W b s e) (hb : Below W.heap.size W V) : TB V b s e := (hb.block b h.lt).trans h
theorem grown_drewN (W : World) (q : Nat) (row : Option Nat) : W.grownBy (W.drewN q) row := grown_of_below (pw_below_drewN (Below.refl _ W) q) row
theorem grown_set (W : World) (b j : Nat) (v : Value) : W.grownBy (W.setCell ⟨b, j, none⟩ v) (some b) :=
 ⟨rfl, rfl, rfl, (Below.setCell (Below.refl 0 W) (Nat.zero_le _) v).size, fun k _ hk => Below.heap_setCell W ⟨b, j, none⟩ v k (fun h => hk (by rw [h]))⟩
theorem TB.put {W : World} {b : Nat} {s s' : List UInt8} {e e' : Int} (h : TB W b s e) : TB ((W.setCell ⟨b, 0, none⟩ (.string ⟨s'.toArray⟩)).setCell ⟨b, 1, none⟩ (.int .i64 e')) b s' e' :=
 blk_put (blk_put h 0 _ rfl) 1 _ rfl
theorem grown_put (W : World) (b : Nat) (u v : Value) : W.grownBy ((W.setCell ⟨b, 0, none⟩ u).setCell ⟨b, 1, none⟩ v) (some b) := World.grownBy.trans (grown_set W b 0 u) (grown_set _ b 1 v)
set_option maxHeartbeats 1000000 in
set_option maxRecDepth 1000000 in
theorem num_step (b : Nat) (s : List UInt8) (e : Int) (w : World) (hb : TB w b s e) (hs : s.length ≤ 8000000000000) :
  Calls Try.prog 42 #[.pointer (some ⟨b, 0, none⟩)] w fun x w' => x = .returned (.int .i64 (numR s e).1) ∧ TB w' b (numR s e).2.1 (numR s e).2.2 ∧ w.grownBy w' (some b) := by
 have HT := Lib.hid hb
 have c0 := hb.c0; have c1 := hb.c1; have f0 := hb.f 0; have f1 := hb.f 1
 clear hb
 by_cases he : e = 0
 ·subst he
  have HN : Hid (∀ V, Calls Try.prog 63 #[.string ⟨s.toArray⟩] V fun e w' => e = .returned (.tuple #[.int .u64 ((takeN 0 0 s).1 : Int), .string ⟨(takeN 0 0 s).2.1.toArray⟩, .int .i64 (takeN 0 0 s).2.2]) ∧ Drawn0 V w') :=
   Lib.hid (fun V => octet_TakeNum.calls ⟨s.toArray⟩ _ _ _ V (by unfold octet_TakeNum.f; rw [if_pos (by rw [mk_size]; omega)]; rfl))
  have HU := Lib.hid (fun V => T.octet_Unfold.calls _ _ V (unfold_T (takeN0_lt s)))
  have hR : numR s 0 = (unfoldN (takeN 0 0 s).1, (takeN 0 0 s).2.1, (takeN 0 0 s).2.2) := if_pos rfl
  rw [hR]
  clear hR
  generalize takeN 0 0 s = p at *
  obtain ⟨n, r, x⟩ := p
  generalize unfoldN n = un at *
  go_enter Try.func42, Try.ntmps42
  go_wp2_with fail
  refine (HN.out _).mono ?_
  rintro e w1 ⟨rfl, q, rfl⟩
  have HT1 : Hid (TB (w.drewN q) b s 0) := Lib.hid HT.out
  have HG1 := Lib.hid (grown_drewN w q (some b))
  have f0 := HT1.out.f 0; have f1 := HT1.out.f 1; have c0 := HT1.out.c0; have c1 := HT1.out.c1
  generalize w.drewN q = w1 at *
  go_wp2_with fail
  refine (HU.out _).mono ?_
  rintro e w2 ⟨rfl, q2, rfl⟩
  go_wp2
  go_ret
  exact ⟨rfl, HT1.out.put, World.grownBy.trans HG1.out (World.grownBy.trans (grown_put _ _ _ _) (grown_drewN _ _ _))⟩
 ·have heb : (e != 0) = true := by simpa using he
  have hR : numR s e = (0, s, e) := if_neg he
  rw [hR]
  clear he hR
  go_enter Try.func42, Try.ntmps42
  go_wp2_with fail
  go_ret
  exact ⟨rfl, HT.out, World.grownBy.refl _ _⟩
set_option maxHeartbeats 1000000 in
set_option maxRecDepth 1000000 in
theorem text_step (b : Nat) (s : List UInt8) (e : Int) (w : World) (hb : TB w b s e) (hs : s.length ≤ 8000000000000) :
  Calls Try.prog 45 #[.pointer (some ⟨b, 0, none⟩)] w fun x w' => x = .returned (.string ⟨(textR s e).1.toArray⟩) ∧ TB w' b (textR s e).2.1 (textR s e).2.2 ∧ w.grownBy w' (some b) := by
 have HT := Lib.hid hb
 have c0 := hb.c0; have c1 := hb.c1; have f0 := hb.f 0; have f1 := hb.f 1
 clear hb
 by_cases he : e = 0
 ·subst he
  have HN : Hid (∀ V, Calls Try.prog 66 #[.string ⟨s.toArray⟩, .int .i64 4096] V fun e w' => e = .returned (.tuple #[.string ⟨(textL s 4096).1.toArray⟩, .string ⟨(textL s 4096).2.1.toArray⟩, .int .i64 (textL s 4096).2.2]) ∧ Drawn0 V w') :=
   Lib.hid (fun V => octet_TakeText.calls ⟨s.toArray⟩ 4096 _ _ _ V (by unfold octet_TakeText.f; rw [if_pos ⟨by rw [mk_size]; omega, by decide, by decide⟩]; rfl))
  have hR : textR s 0 = textL s 4096 := if_pos rfl
  rw [hR]
  clear hR
  generalize textL s 4096 = p at *
  obtain ⟨n, r, x⟩ := p
  go_enter Try.func45, Try.ntmps45
  go_wp2_with fail
  refine (HN.out _).mono ?_
  rintro e w1 ⟨rfl, q, rfl⟩
  have HT1 : Hid (TB (w.drewN q) b s 0) := Lib.hid HT.out
  have HG1 := Lib.hid (grown_drewN w q (some b))
  have f0 := HT1.out.f 0; have f1 := HT1.out.f 1; have c0 := HT1.out.c0; have c1 := HT1.out.c1
  generalize w.drewN q = w1 at *
  go_wp2_with fail
  go_ret
  exact ⟨rfl, HT1.out.put, World.grownBy.trans HG1.out (grown_put _ _ _ _)⟩
 ·have heb : (e != 0) = true := by simpa using he
  have hR : textR s e = ([], s, e) := if_neg he
  rw [hR]
  clear he hR
  go_enter Try.func45, Try.ntmps45
  go_wp2_with fail
  go_ret
  exact ⟨rfl, HT.out, World.grownBy.refl _ _⟩
set_option maxHeartbeats 1000000 in
set_option maxRecDepth 1000000 in
theorem texts_step (b : Nat) (s : List UInt8) (e : Int) (w : World) (hb : TB w b s e) (hs : s.length ≤ 8000000000000) :
  Calls Try.prog 46 #[.pointer (some ⟨b, 0, none⟩)] w fun x w' => ∃ v, x = .returned v ∧ Kd.R Kd.string 9 w' w.heap.size (fun _ => True) v (mks (textsR s e).1) ∧ TB w' b (textsR s e).2.1 (textsR s e).2.2 ∧ w.grownBy w' (some b) := by
 have HT := Lib.hid hb
 have c0 := hb.c0; have c1 := hb.c1; have f0 := hb.f 0; have f1 := hb.f 1
 clear hb
 by_cases he : e = 0
 ·subst he
  have HN : Hid (∀ V, Calls Try.prog 67 #[.string ⟨s.toArray⟩, .int .i64 256, .int .i64 32] V fun e w' => ∃ v0_ : Value, e = .returned (.tuple #[v0_, .string ⟨(listL s 256 32).2.1.toArray⟩, .int .i64 (listL s 256 32).2.2]) ∧ Kd.R Kd.string 9 w' V.heap.size (fun _ => True) v0_ (mks (listL s 256 32).1) ∧ Below V.heap.size V w') :=
   Lib.hid (fun V => octet_TakeList.calls ⟨s.toArray⟩ 256 32 _ _ _ V (by unfold octet_TakeList.f; rw [if_pos ⟨by rw [mk_size]; omega, ⟨by decide, by decide⟩, by decide, by decide⟩]; rfl))
  have hR : textsR s 0 = listL s 256 32 := if_pos rfl
  rw [hR]
  clear hR
  generalize listL s 256 32 = p at *
  obtain ⟨n, r, x⟩ := p
  go_enter Try.func46, Try.ntmps46
  go_wp2_with fail
  refine (HN.out _).mono ?_
  rintro e w1 ⟨v, rfl, hR, hB⟩
  obtain ⟨A, c, rfl⟩ := Kd.R_slice hR
  have HT1 : Hid (TB w1 b s 0) := Lib.hid (HT.out.below hB)
  have HG1 := Lib.hid (grown_of_below hB (some b))
  have HR1 := Lib.hid hR
  have HL := Lib.hid HT.out.lt
  have f0 := HT1.out.f 0; have f1 := HT1.out.f 1; have c0 := HT1.out.c0; have c1 := HT1.out.c1
  clear hR hB
  go_wp2_with fail
  go_ret
  refine ⟨_, rfl, ?_, HT1.out.put, World.grownBy.trans HG1.out (grown_put _ _ _ _)⟩
  have hl := HL.out
  exact Kd.R_mono (Kd.R_far (p := ⟨b, 1, none⟩) (Kd.R_far (p := ⟨b, 0, none⟩) (Kd.R_bound HR1.out) (fun k hk => by have h := hk.2.1; show k ≠ b; omega) _) (fun k hk => by have h := hk.2.1; show k ≠ b; omega) _) (fun _ _ => trivial)
 ·have heb : (e != 0) = true := by simpa using he
  have hR : textsR s e = ([], s, e) := if_neg he
  rw [hR]
  clear he hR
  go_enter Try.func46, Try.ntmps46
  go_wp2_with fail
  go_ret
  exact ⟨_, rfl, Kd.R_nil _ _ _ _ _, HT.out, World.grownBy.refl _ _⟩
end Go.Proofs.Ytgnmhbkialgeaaa
end

section
namespace Go.Proofs.Ytgnmhbkialgeaaa
open Go.RowKit Go.Proofs.YtgnmhbkialgeaaaW.PrintWords Go.Proofs.YtgnmhbkialgeaaaW.PrintLast Go.Proofs.YtgnmhbkialgeaaaW.PrintMore Math
def numsR : Nat → List UInt8 → Int → List Int × List UInt8 × Int
 | 0, s, e => ([], s, e)
 | n + 1, s, e => ((numsR n s e).1 ++ [(numR (numsR n s e).2.1 (numsR n s e).2.2).1], (numR (numsR n s e).2.1 (numsR n s e).2.2).2)
theorem takeN_le (s : List UInt8) : (takeN 0 0 s).2.1.length ≤ s.length := (takeN_len s 0 0).1
theorem numR_le (s : List UInt8) (e : Int) : (numR s e).2.1.length ≤ s.length := by
 unfold numR
 split
 ·exact takeN_le s
 ·exact Nat.le_refl _
theorem textR_le (s : List UInt8) (e : Int) : (textR s e).2.1.length ≤ s.length := by
 unfold textR
 split
 ·unfold textL
  have h := takeN_le s
  split
  ·split
   ·simp
   ·split
    ·simp
    ·rw [List.length_drop]; omega
  ·simp
 ·exact Nat.le_refl _
theorem numsR_le (n : Nat) (s : List UInt8) (e : Int) : (numsR n s e).2.1.length ≤ s.length := by
 induction n with
 | zero => exact Nat.le_refl _
 | succ n ih => exact Nat.le_trans (numR_le _ _) ih
theorem numsR_len (n : Nat) (s : List UInt8) (e : Int) : (numsR n s e).1.length = n := by
 induction n with
 | zero => rfl
 | succ n ih => rw [numsR, List.length_append, ih]; rfl
def cArr (l : List Int) (x y z : ByteArray) : Array Value := #[.int .i64 (l.getD 0 0), .int .i64 (l.getD 1 0), .int .i64 (l.getD 2 0), .int .i64 (l.getD 3 0), .int .i64 (l.getD 4 0), .string x, .string y, .string z]
theorem cArr_snoc (l : List Int) (x y z : ByteArray) (v : Int) (i : Nat) (hi : l.length = i) (h5 : i < 5) : (cArr l x y z).setIfInBounds i (.int .i64 v) = cArr (l ++ [v]) x y z := by
 subst hi
 match l, h5 with
 | [], _ => rfl
 | [a], _ => rfl
 | [a, b], _ => rfl
 | [a, b, c], _ => rfl
 | [a, b, c, d], _ => rfl
theorem cArr_at (l : List Int) (x y z : ByteArray) (i : Nat) (h5 : i < 5) : (cArr l x y z)[i]? = some (.int .i64 (l.getD i 0)) := by
 match i, h5 with
 | 0, _ => rfl
 | 1, _ => rfl
 | 2, _ => rfl
 | 3, _ => rfl
 | 4, _ => rfl
def callR (s : List UInt8) (e : Int) : (List Int × List UInt8 × List UInt8 × List UInt8) × List UInt8 × Int :=
 let p := numsR 5 s e
 let a := textR p.2.1 p.2.2
 let b := textR a.2.1 a.2.2
 let c := textR b.2.1 b.2.2
 ((p.1, a.1, b.1, c.1), c.2)
def callA (p : List Int × List UInt8 × List UInt8 × List UInt8) : Array Value := cArr p.1 ⟨p.2.1.toArray⟩ ⟨p.2.2.1.toArray⟩ ⟨p.2.2.2.toArray⟩
def CB (W : World) (b : Nat) (cs : Array Value) (t : TypeId) : Prop := W.heap[b]? = some (.cells cs t (0, 0))
theorem CB.grown {W V : World} {b k : Nat} {cs : Array Value} {t : TypeId} (h : CB W b cs t) (hg : W.grownBy V (some k)) (hne : b ≠ k) : CB V b cs t := (hg.block b (blk_lt h) (fun e => hne (Option.some.inj e))).trans h
theorem CB.set {W : World} {b : Nat} {cs cs' : Array Value} {t : TypeId} (h : CB W b cs t) (i : Nat) (u : Value) (e : cs.setIfInBounds i u = cs') : CB (W.setCell ⟨b, i, none⟩ u) b cs' t := blk_put h i u e
theorem CB.far {W : World} {b k : Nat} {cs : Array Value} {t : TypeId} (h : CB W b cs t) (hne : b ≠ k) (j : Nat) (u : Value) : CB (W.setCell ⟨k, j, none⟩ u) b cs t := blk_far h hne u
theorem TB.far {W : World} {b k : Nat} {s : List UInt8} {e : Int} (h : TB W b s e) (hne : b ≠ k) (j : Nat) (u : Value) : TB (W.setCell ⟨k, j, none⟩ u) b s e := blk_far h hne u
theorem grown_new {W V : World} {row : Option Nat} {n : Nat} (hn : n ≤ W.heap.size) (h : W.grownBy V row) (k j : Nat) (hk : W.heap.size ≤ k) (u : Value) : W.grownBy (V.setCell ⟨k, j, none⟩ u) row :=
 ⟨h.os, h.tape, h.output, Nat.le_trans h.size (Below.setCell (Below.refl 0 V) (Nat.zero_le _) u).size, fun i hi hr => (Below.heap_setCell V ⟨k, j, none⟩ u i (by show i ≠ k; omega)).trans (h.block i hi hr)⟩
theorem gn {W V : World} {row : Option Nat} {k j : Nat} {u : Value} (hk : W.heap.size ≤ k) (h : W.grownBy V row) : W.grownBy (V.setCell ⟨k, j, none⟩ u) row := grown_new (Nat.le_refl _) h k j hk u
set_option maxHeartbeats 4000000 in
set_option maxRecDepth 1000000 in
theorem call_step (b : Nat) (s : List UInt8) (e : Int) (w : World) (hb : TB w b s e) (hs : s.length ≤ 8000000000000) :
  Calls Try.prog 29 #[.pointer (some ⟨b, 0, none⟩)] w fun x w' => x = .returned (.agg (callA (callR s e).1)) ∧ TB w' b (callR s e).2.1 (callR s e).2.2 ∧ w.grownBy w' (some b) := by
 have hlt := hb.lt
 obtain ⟨W3, hW3⟩ : ∃ W3, W3 = ((w.alloc (.cells (cArr [] ⟨#[]⟩ ⟨#[]⟩ ⟨#[]⟩) 23)).alloc (.cells (cArr [] ⟨#[]⟩ ⟨#[]⟩ ⟨#[]⟩) 23)).alloc (.cells #[.pointer (some ⟨w.heap.size + 1, 0, none⟩), .pointer (some ⟨w.heap.size + 1, 1, none⟩), .pointer (some ⟨w.heap.size + 1, 2, none⟩), .pointer (some ⟨w.heap.size + 1, 3, none⟩), .pointer (some ⟨w.heap.size + 1, 4, none⟩)] 99) := ⟨_, rfl⟩
 have z3 : W3.heap.size = w.heap.size + 3 := by rw [hW3, World.size_alloc, World.size_alloc, World.size_alloc]
 have r3 : CB W3 w.heap.size (cArr [] ⟨#[]⟩ ⟨#[]⟩ ⟨#[]⟩) 23 := by
  rw [hW3]; exact (heap_alloc_old _ _ (by rw [World.size_alloc, World.size_alloc]; omega)).trans ((heap_alloc_old _ _ (by rw [World.size_alloc]; omega)).trans (heap_alloc_new _ _))
 have c3 : CB W3 (w.heap.size + 1) (cArr [] ⟨#[]⟩ ⟨#[]⟩ ⟨#[]⟩) 23 := by
  have h := heap_alloc_new (w.alloc (.cells (cArr [] ⟨#[]⟩ ⟨#[]⟩ ⟨#[]⟩) 23)) (.cells (cArr [] ⟨#[]⟩ ⟨#[]⟩ ⟨#[]⟩) 23)
  rw [World.size_alloc] at h
  rw [hW3]; exact (heap_alloc_old _ _ (by rw [World.size_alloc, World.size_alloc]; omega)).trans h
 have l3 : CB W3 (w.heap.size + 2) #[.pointer (some ⟨w.heap.size + 1, 0, none⟩), .pointer (some ⟨w.heap.size + 1, 1, none⟩), .pointer (some ⟨w.heap.size + 1, 2, none⟩), .pointer (some ⟨w.heap.size + 1, 3, none⟩), .pointer (some ⟨w.heap.size + 1, 4, none⟩)] 99 := by
  have h := heap_alloc_new ((w.alloc (.cells (cArr [] ⟨#[]⟩ ⟨#[]⟩ ⟨#[]⟩) 23)).alloc (.cells (cArr [] ⟨#[]⟩ ⟨#[]⟩ ⟨#[]⟩) 23)) (.cells #[.pointer (some ⟨w.heap.size + 1, 0, none⟩), .pointer (some ⟨w.heap.size + 1, 1, none⟩), .pointer (some ⟨w.heap.size + 1, 2, none⟩), .pointer (some ⟨w.heap.size + 1, 3, none⟩), .pointer (some ⟨w.heap.size + 1, 4, none⟩)] 99)
  rw [World.size_alloc, World.size_alloc] at h
  rw [hW3]; exact h
 have t3 : TB W3 b s e := by
  rw [hW3]; exact (heap_alloc_old _ _ (by rw [World.size_alloc, World.size_alloc]; omega)).trans ((heap_alloc_old _ _ (by rw [World.size_alloc]; omega)).trans ((heap_alloc_old _ _ (by omega)).trans hb))
 have g3 : w.grownBy W3 (some b) := by
  rw [hW3]; exact World.grownBy.trans (World.grownBy.trans (World.grownBy_alloc _ _ _) (World.grownBy_alloc _ _ _)) (World.grownBy_alloc _ _ _)
 have R3 := Lib.hid r3; have C3 := Lib.hid c3; have L3 := Lib.hid l3; have T3 := Lib.hid t3; have G3 := Lib.hid g3; have Z3 := Lib.hid (show w.heap.size + 3 ≤ W3.heap.size by omega)
 have HLT := Lib.hid hlt
 have HS := Lib.hid hs
 clear r3 c3 l3 t3 g3 z3 hlt hb hs
 subst hW3
 go_enter Try.func29, Try.ntmps29
 go_wp2_with fail
 go_loopg [13] 5 (fun g v13 wx => ∃ i : Nat, i + g = 5 ∧ v13 = .int .i64 i ∧ Hid (TB wx b (numsR i s e).2.1 (numsR i s e).2.2) ∧ Hid (CB wx w.heap.size (cArr [] ⟨#[]⟩ ⟨#[]⟩ ⟨#[]⟩) 23) ∧ Hid (CB wx (w.heap.size + 1) (cArr (numsR i s e).1 ⟨#[]⟩ ⟨#[]⟩ ⟨#[]⟩) 23) ∧
  Hid (CB wx (w.heap.size + 2) #[.pointer (some ⟨w.heap.size + 1, 0, none⟩), .pointer (some ⟨w.heap.size + 1, 1, none⟩), .pointer (some ⟨w.heap.size + 1, 2, none⟩), .pointer (some ⟨w.heap.size + 1, 3, none⟩), .pointer (some ⟨w.heap.size + 1, 4, none⟩)] 99) ∧ Hid (w.grownBy wx (some b)) ∧ Hid (w.heap.size + 3 ≤ wx.heap.size))
 case atStart => exact ⟨0, by omega, rfl, T3, R3, C3, L3, G3, Z3⟩
 case round =>
  clear T3 R3 C3 L3 G3 Z3
  obtain ⟨i, hig, rfl, HT, HR, HC, HL, HG, HZ⟩ := hrel
  cases gk with
  | zero =>
   obtain rfl : i = 5 := by omega
   have hiz : ¬ ((5 : Int) < 5) := by omega
   clear hig
   have HRES : Hid (callR s e = (((numsR 5 s e).1, (textR (numsR 5 s e).2.1 (numsR 5 s e).2.2).1, (textR (textR (numsR 5 s e).2.1 (numsR 5 s e).2.2).2.1 (textR (numsR 5 s e).2.1 (numsR 5 s e).2.2).2.2).1, (textR (textR (textR (numsR 5 s e).2.1 (numsR 5 s e).2.2).2.1 (textR (numsR 5 s e).2.1 (numsR 5 s e).2.2).2.2).2.1 (textR (textR (numsR 5 s e).2.1 (numsR 5 s e).2.2).2.1 (textR (numsR 5 s e).2.1 (numsR 5 s e).2.2).2.2).2.2).1),
    (textR (textR (textR (numsR 5 s e).2.1 (numsR 5 s e).2.2).2.1 (textR (numsR 5 s e).2.1 (numsR 5 s e).2.2).2.2).2.1 (textR (textR (numsR 5 s e).2.1 (numsR 5 s e).2.2).2.1 (textR (numsR 5 s e).2.1 (numsR 5 s e).2.2).2.2).2.2).2)) := Lib.hid rfl
   have HX1 := Lib.hid (fun V (h : TB V b (numsR 5 s e).2.1 (numsR 5 s e).2.2) => text_step b _ _ V h (Nat.le_trans (numsR_le 5 s e) HS.out))
   have HN1 := Lib.hid (Nat.le_trans (numsR_le 5 s e) HS.out)
   generalize numsR 5 s e = p at *
   obtain ⟨xs, s1, e1⟩ := p
   dsimp only at *
   have HN2 := Lib.hid (Nat.le_trans (textR_le s1 e1) HN1.out)
   generalize textR s1 e1 = p at *
   obtain ⟨a1, s2, e2⟩ := p
   dsimp only at *
   have HX2 := Lib.hid (fun V (h : TB V b s2 e2) => text_step b _ _ V h HN2.out)
   have HN3 := Lib.hid (Nat.le_trans (textR_le s2 e2) HN2.out)
   generalize textR s2 e2 = p at *
   obtain ⟨a2, s3, e3⟩ := p
   dsimp only at *
   have HX3 := Lib.hid (fun V (h : TB V b s3 e3) => text_step b _ _ V h HN3.out)
   generalize textR s3 e3 = p at *
   obtain ⟨a3, s4, e4⟩ := p
   dsimp only at *
   have HT0 : Hid (TB wr.drew b s1 e1) := Lib.hid HT.out
   have HR0 : Hid (CB wr.drew w.heap.size (cArr [] ⟨#[]⟩ ⟨#[]⟩ ⟨#[]⟩) 23) := Lib.hid HR.out
   have HC0 : Hid (CB wr.drew (w.heap.size + 1) (cArr xs ⟨#[]⟩ ⟨#[]⟩ ⟨#[]⟩) 23) := Lib.hid HC.out
   have HNE := Lib.hid (show w.heap.size + 1 ≠ b by have := HLT.out; omega)
   have HNR := Lib.hid (show w.heap.size ≠ b by have := HLT.out; omega)
   clear HT HC HL HR HN1 HN2 HN3
   go_wp2_with fail
   refine start_ (n := 18) (S := fun w' => True) (ds := []) #[false, false, false, false, false, false, false, false, false, false, false, false, false, false, false, false, false, false] (by kernel_rfl) rfl rfl trivial (fun hHeld => ?_)
   refine pure_ (i := 0) (N := some 24) (v := ?_) (a' := ?_) #[true, false, false, false, false, false, false, false, false, false, false, false, false, false, false, false, false, false] rfl rfl (by kernel_rfl) (fun _ _ _ h => h) (Or.inl ⟨by rfl, ?_⟩) ?_ ?_
   (rotate_left; · (intro w'; go_simp; with_reducible rfl))
   (rotate_left; · (simp only [Act.put, List.setIfInBounds_toArray, List.set_cons_zero, List.set_cons_succ, i64_w, i32_w]; rfl))
   refine pure_ (i := 1) (N := some 25) (v := ?_) (a' := ?_) #[true, true, false, false, false, false, false, false, false, false, false, false, false, false, false, false, false, false] rfl rfl (by kernel_rfl) (fun _ _ _ h => h) (Or.inl ⟨by rfl, ?_⟩) ?_ ?_
   (rotate_left; · (intro w'; go_simp; with_reducible rfl))
   (rotate_left; · (simp only [Act.put, List.setIfInBounds_toArray, List.set_cons_zero, List.set_cons_succ, i64_w, i32_w]; rfl))
   refine pure_ (i := 2) (N := some 26) (v := ?_) (a' := ?_) #[true, true, true, false, false, false, false, false, false, false, false, false, false, false, false, false, false, false] rfl rfl (by kernel_rfl) (fun _ _ _ h => h) (Or.inl ⟨by rfl, ?_⟩) ?_ ?_
   (rotate_left; · (intro w'; go_simp; with_reducible rfl))
   (rotate_left; · (simp only [Act.put, List.setIfInBounds_toArray, List.set_cons_zero, List.set_cons_succ, i64_w, i32_w]; rfl))
   refine pure_ (i := 4) (N := some 28) (v := ?_) (a' := ?_) #[true, true, true, false, true, false, false, false, false, false, false, false, false, false, false, false, false, false] rfl rfl (by kernel_rfl) (fun _ _ _ h => h) (Or.inl ⟨by rfl, ?_⟩) ?_ ?_
   (rotate_left; · (intro w'; go_simp; with_reducible rfl))
   (rotate_left; · (simp only [Act.put, List.setIfInBounds_toArray, List.set_cons_zero, List.set_cons_succ, i64_w, i32_w]; rfl))
   refine pure_ (i := 5) (N := some 29) (v := ?_) (a' := ?_) #[true, true, true, false, true, true, false, false, false, false, false, false, false, false, false, false, false, false] rfl rfl (by kernel_rfl) (fun _ _ _ h => h) (Or.inl ⟨by rfl, ?_⟩) ?_ ?_
   (rotate_left; · (intro w'; go_simp; with_reducible rfl))
   (rotate_left; · (simp only [Act.put, List.setIfInBounds_toArray, List.set_cons_zero, List.set_cons_succ, i64_w, i32_w]; rfl))
   refine pure_ (i := 6) (N := some 30) (v := ?_) (a' := ?_) #[true, true, true, false, true, true, true, false, false, false, false, false, false, false, false, false, false, false] rfl rfl (by kernel_rfl) (fun _ _ _ h => h) (Or.inl ⟨by rfl, ?_⟩) ?_ ?_
   (rotate_left; · (intro w'; go_simp; with_reducible rfl))
   (rotate_left; · (simp only [Act.put, List.setIfInBounds_toArray, List.set_cons_zero, List.set_cons_succ, i64_w, i32_w]; rfl))
   refine pure_ (i := 8) (N := some 32) (v := ?_) (a' := ?_) #[true, true, true, false, true, true, true, false, true, false, false, false, false, false, false, false, false, false] rfl rfl (by kernel_rfl) (fun _ _ _ h => h) (Or.inl ⟨by rfl, ?_⟩) ?_ ?_
   (rotate_left; · (intro w'; go_simp; with_reducible rfl))
   (rotate_left; · (simp only [Act.put, List.setIfInBounds_toArray, List.set_cons_zero, List.set_cons_succ, i64_w, i32_w]; rfl))
   refine pure_ (i := 9) (N := some 33) (v := ?_) (a' := ?_) #[true, true, true, false, true, true, true, false, true, true, false, false, false, false, false, false, false, false] rfl rfl (by kernel_rfl) (fun _ _ _ h => h) (Or.inl ⟨by rfl, ?_⟩) ?_ ?_
   (rotate_left; · (intro w'; go_simp; with_reducible rfl))
   (rotate_left; · (simp only [Act.put, List.setIfInBounds_toArray, List.set_cons_zero, List.set_cons_succ, i64_w, i32_w]; rfl))
   refine pure_ (i := 10) (N := some 34) (v := ?_) (a' := ?_) #[true, true, true, false, true, true, true, false, true, true, true, false, false, false, false, false, false, false] rfl rfl (by kernel_rfl) (fun _ _ _ h => h) (Or.inl ⟨by rfl, ?_⟩) ?_ ?_
   (rotate_left; · (intro w'; go_simp; with_reducible rfl))
   (rotate_left; · (simp only [Act.put, List.setIfInBounds_toArray, List.set_cons_zero, List.set_cons_succ, i64_w, i32_w]; rfl))
   refine one_ (i := 3) (N := some 27) #[true, true, true, true, true, true, true, false, true, true, true, false, false, false, false, false, false, false] rfl rfl (by kernel_rfl) (by decide) (fun K hK => ?_)
   refine goes_ Try.func45 (by kernel_rfl) rfl #[.pointer (some ⟨b, 0, none⟩)] (by rfl) rfl rfl (by simp only [List.map_toArray, List.map_cons, List.map_nil]; rfl) ?_
   with_reducible refine ((HX1.out _ HT0.out)).mono ?_
   rintro e w11 ⟨rfl, ht, hg⟩
   refine ⟨_, rfl, ?_⟩
   have HT1 := Lib.hid ht; have HG1 := Lib.hid hg
   clear ht hg
   refine hK.out _ _ trivial (fun hHeld => ?_)
   clear hK K
   refine norm_ (a' := ?_) ?_ ?_
   rotate_left
   ·show Act.put _ (some 27) _ = _
    simp only [Act.put, List.setIfInBounds_toArray, List.set_cons_zero, List.set_cons_succ, i64_w, i32_w]
    rfl
   refine one_ (i := 7) (N := some 31) #[true, true, true, true, true, true, true, true, true, true, true, false, false, false, false, false, false, false] rfl rfl (by kernel_rfl) (by decide) (fun K hK => ?_)
   refine goes_ Try.func45 (by kernel_rfl) rfl #[.pointer (some ⟨b, 0, none⟩)] (by rfl) rfl rfl (by simp only [List.map_toArray, List.map_cons, List.map_nil]; rfl) ?_
   with_reducible refine ((HX2.out _ HT1.out)).mono ?_
   rintro e w12 ⟨rfl, ht, hg⟩
   refine ⟨_, rfl, ?_⟩
   have HT2 := Lib.hid ht; have HG2 := Lib.hid hg
   clear ht hg
   refine hK.out _ _ trivial (fun hHeld => ?_)
   clear hK K
   refine norm_ (a' := ?_) ?_ ?_
   rotate_left
   ·show Act.put _ (some 31) _ = _
    simp only [Act.put, List.setIfInBounds_toArray, List.set_cons_zero, List.set_cons_succ, i64_w, i32_w]
    rfl
   refine one_ (i := 11) (N := some 35) #[true, true, true, true, true, true, true, true, true, true, true, true, false, false, false, false, false, false] rfl rfl (by kernel_rfl) (by decide) (fun K hK => ?_)
   refine goes_ Try.func45 (by kernel_rfl) rfl #[.pointer (some ⟨b, 0, none⟩)] (by rfl) rfl rfl (by simp only [List.map_toArray, List.map_cons, List.map_nil]; rfl) ?_
   with_reducible refine ((HX3.out _ HT2.out)).mono ?_
   rintro e w13 ⟨rfl, ht, hg⟩
   refine ⟨_, rfl, ?_⟩
   have HT3 := Lib.hid ht; have HG3 := Lib.hid hg
   clear ht hg
   have hbx := ((HC0.out.grown HG1.out (by have h := HNE.out; exact h)).grown HG2.out (by have h := HNE.out; exact h)).grown HG3.out (by have h := HNE.out; exact h)
   have HBX := Lib.hid hbx
   have q5 := blk_cell hbx 5; have q6 := blk_cell hbx 6; have q7 := blk_cell hbx 7; have g5 := blk_frozen hbx 5; have g6 := blk_frozen hbx 6; have g7 := blk_frozen hbx 7
   clear hbx
   simp only [cArr] at q5 q6 q7
   refine hK.out _ _ trivial (fun hHeld => ?_)
   clear hK K
   refine norm_ (a' := ?_) ?_ ?_
   rotate_left
   ·show Act.put _ (some 35) _ = _
    simp only [Act.put, List.setIfInBounds_toArray, List.set_cons_zero, List.set_cons_succ, i64_w, i32_w]
    rfl
   refine pure_ (i := 12) (N := some 36) (v := ?_) (a' := ?_) #[true, true, true, true, true, true, true, true, true, true, true, true, true, false, false, false, false, false] rfl rfl (by kernel_rfl) (fun _ _ _ h => h) (Or.inl ⟨by rfl, ?_⟩) ?_ ?_
   (rotate_left; · (intro w'; go_simp; with_reducible rfl))
   (rotate_left; · (simp only [Act.put, List.setIfInBounds_toArray, List.set_cons_zero, List.set_cons_succ, i64_w, i32_w]; rfl))
   refine one_ (i := 13) (N := none) #[true, true, true, true, true, true, true, true, true, true, true, true, true, true, false, false, false, false] rfl rfl (by kernel_rfl) (by decide) (fun K hK => ?_)
   refine skip_ (w1 := ?_) (by rfl) rfl ?_ ?_
   rotate_left
   ·go_simp
    rfl
   refine hK.out _ _ trivial (fun hHeld => ?_)
   clear hK K
   refine pure_ (i := 14) (N := some 37) (v := ?_) (a' := ?_) #[true, true, true, true, true, true, true, true, true, true, true, true, true, true, true, false, false, false] rfl rfl (by kernel_rfl) (fun _ _ _ h => h) (Or.inl ⟨by rfl, ?_⟩) ?_ ?_
   (rotate_left; · (intro w'; go_simp; with_reducible rfl))
   (rotate_left; · (simp only [Act.put, List.setIfInBounds_toArray, List.set_cons_zero, List.set_cons_succ, i64_w, i32_w]; rfl))
   refine one_ (i := 15) (N := none) #[true, true, true, true, true, true, true, true, true, true, true, true, true, true, true, true, false, false] rfl rfl (by kernel_rfl) (by decide) (fun K hK => ?_)
   refine skip_ (w1 := ?_) (by rfl) rfl ?_ ?_
   rotate_left
   ·go_simp
    rfl
   refine hK.out _ _ trivial (fun hHeld => ?_)
   clear hK K
   refine pure_ (i := 16) (N := some 38) (v := ?_) (a' := ?_) #[true, true, true, true, true, true, true, true, true, true, true, true, true, true, true, true, true, false] rfl rfl (by kernel_rfl) (fun _ _ _ h => h) (Or.inl ⟨by rfl, ?_⟩) ?_ ?_
   (rotate_left; · (intro w'; go_simp; with_reducible rfl))
   (rotate_left; · (simp only [Act.put, List.setIfInBounds_toArray, List.set_cons_zero, List.set_cons_succ, i64_w, i32_w]; rfl))
   refine one_ (i := 17) (N := none) #[true, true, true, true, true, true, true, true, true, true, true, true, true, true, true, true, true, true] rfl rfl (by kernel_rfl) (by decide) (fun K hK => ?_)
   refine skip_ (w1 := ?_) (by rfl) rfl ?_ ?_
   rotate_left
   ·go_simp
    rfl
   refine hK.out _ _ trivial (fun hHeld => ?_)
   clear hK K
   refine done_ (by kernel_rfl) ?_
   have hr3 := ((HR0.out.grown HG1.out HNR.out).grown HG2.out HNR.out).grown HG3.out HNR.out
   obtain ⟨n0, h0⟩ : ∃ n, xs.getD 0 0 = n := ⟨_, rfl⟩
   obtain ⟨n1, h1⟩ : ∃ n, xs.getD 1 0 = n := ⟨_, rfl⟩
   obtain ⟨n2, h2⟩ : ∃ n, xs.getD 2 0 = n := ⟨_, rfl⟩
   obtain ⟨n3, h3⟩ : ∃ n, xs.getD 3 0 = n := ⟨_, rfl⟩
   obtain ⟨n4, h4⟩ : ∃ n, xs.getD 4 0 = n := ⟨_, rfl⟩
   have hA : ∀ x y z, cArr xs x y z = #[.int .i64 n0, .int .i64 n1, .int .i64 n2, .int .i64 n3, .int .i64 n4, .string x, .string y, .string z] := fun x y z => by unfold cArr; rw [h0, h1, h2, h3, h4]
   have HA := Lib.hid hA
   have hb3 : CB w13 (w.heap.size + 1) #[.int .i64 n0, .int .i64 n1, .int .i64 n2, .int .i64 n3, .int .i64 n4, .string ⟨#[]⟩, .string ⟨#[]⟩, .string ⟨#[]⟩] 23 := by rw [← hA]; exact HBX.out
   have HF := Lib.hid ((hr3.set 0 (.int .i64 n0) rfl).set 1 (.int .i64 n1) rfl)
   clear h0 h1 h2 h3 h4 hA
   have q0 := blk_cell hb3 0; have q1 := blk_cell hb3 1; have q2 := blk_cell hb3 2; have q3 := blk_cell hb3 3; have q4 := blk_cell hb3 4
   have p0 := blk_cell hr3 0; have p1 := blk_cell hr3 1; have p2 := blk_cell hr3 2; have p3 := blk_cell hr3 3; have p4 := blk_cell hr3 4; have p5 := blk_cell hr3 5; have p6 := blk_cell hr3 6; have p7 := blk_cell hr3 7
   have f0 := blk_frozen hr3 0; have f1 := blk_frozen hr3 1; have f2 := blk_frozen hr3 2; have f3 := blk_frozen hr3 3; have f4 := blk_frozen hr3 4; have f5 := blk_frozen hr3 5; have f6 := blk_frozen hr3 6; have f7 := blk_frozen hr3 7
   simp only [cArr, List.getElem?_toArray, List.getElem?_cons_zero, List.getElem?_cons_succ] at q0 q1 q2 q3 q4 p0 p1 p2 p3 p4 p5 p6 p7
   clear hr3 hb3
   go_wp2_with fail
   refine bodyPost_ret (v := .agg #[.int .i64 n0, .int .i64 n1, .int .i64 n2, .int .i64 n3, .int .i64 n4, .string ⟨a1.toArray⟩, .string ⟨a2.toArray⟩, .string ⟨a3.toArray⟩]) (by simp [results, Try.results29, go_sem, *]) rfl ⟨?_, ?_, ?_⟩
   ·rw [HRES.out]; show _ = Ending.returned (.agg (cArr xs _ _ _)); rw [HA.out]
   ·rw [HRES.out]
    have hlt := HLT.out
    exact ((((((((((HT3.out.far (by omega) _ _).far (by omega) _ _).far (by omega) _ _).far (by omega) _ _).far (by omega) _ _).far (by omega) _ _).far (by omega) _ _).far (by omega) _ _).far (by omega) _ _).far (by omega) _ _).far (by omega) _ _
   ·have hG := World.grownBy.trans HG.out (World.grownBy.trans (grown_of_below (below_drew (Below.refl _ _)) (some b)) (World.grownBy.trans HG1.out (World.grownBy.trans HG2.out HG3.out)))
    exact gn (by omega) (gn (by omega) (gn (by omega) (gn (by omega) (gn (by omega) (gn (by omega) (gn (by omega) (gn (by omega) (gn (by omega) (gn (by omega) (gn (by omega) hG))))))))))
  | succ g =>
   have hi : i < 5 := by omega
   have hiz : (i : Int) < 5 := by omega
   have hp : wr.cell? ⟨w.heap.size + 1 + 1, i, none⟩ = some (.pointer (some ⟨w.heap.size + 1, i, none⟩)) := by
    rw [show w.heap.size + 1 + 1 = w.heap.size + 2 from rfl, blk_cell HL.out]
    match i, hi with
    | 0, _ => rfl
    | 1, _ => rfl
    | 2, _ => rfl
    | 3, _ => rfl
    | 4, _ => rfl
   have HN := Lib.hid (fun V (h : TB V b (numsR i s e).2.1 (numsR i s e).2.2) => num_step b _ _ V h (Nat.le_trans (numsR_le i s e) HS.out))
   have HSN : Hid (numsR (i + 1) s e = ((numsR i s e).1 ++ [(numR (numsR i s e).2.1 (numsR i s e).2.2).1], (numR (numsR i s e).2.1 (numsR i s e).2.2).2)) := Lib.hid rfl
   have HLN := Lib.hid (numsR_len i s e)
   generalize numsR i s e = p at *
   obtain ⟨xs, s1, e1⟩ := p
   generalize numR s1 e1 = q at *
   obtain ⟨x, s2, e2⟩ := q
   have hx := cArr_at xs ⟨#[]⟩ ⟨#[]⟩ ⟨#[]⟩ i hi
   generalize xs.getD i 0 = x0 at *
   go_wp2_with fail
   refine (HN.out _ HT.out).mono ?_
   rintro y w2 ⟨rfl, ht2, hg2⟩
   have hlt := HLT.out
   have HC2 := Lib.hid (HC.out.grown hg2 (by omega)); have HR2 := Lib.hid (HR.out.grown hg2 (by omega)); have HL2 := Lib.hid (HL.out.grown hg2 (by omega))
   have HT2 := Lib.hid ht2
   have HG2 := Lib.hid (World.grownBy.trans HG.out hg2)
   have HZ2 := Lib.hid (Nat.le_trans HZ.out hg2.size)
   have hcx : w2.cell? ⟨w.heap.size + 1, i, none⟩ = some (.int .i64 x0) := by rw [blk_cell HC2.out]; exact hx
   have hfx : w2.frozen? ⟨w.heap.size + 1, i, none⟩ = false := blk_frozen HC2.out i
   clear ht2 hg2 hp hx
   go_wp2_with fail
   go_roundg g
   case measure => omega
   case rel =>
    refine ⟨i + 1, by omega, by go_num, Lib.hid ?_, Lib.hid ?_, Lib.hid ?_, Lib.hid ?_, Lib.hid ?_, Lib.hid ?_⟩
    ·rw [HSN.out]; exact HT2.out.far (by omega) _ _
    ·exact HR2.out.far (by omega) _ _
    ·rw [HSN.out]; exact HC2.out.set _ _ (cArr_snoc _ _ _ _ _ i HLN.out hi)
    ·exact HL2.out.far (by omega) _ _
    ·exact grown_new (Nat.le_refl _) HG2.out _ _ (by omega) _
    ·exact Nat.le_trans HZ2.out (Below.setCell (Below.refl 0 w2) (Nat.zero_le _) _).size
end Go.Proofs.Ytgnmhbkialgeaaa
end

section
namespace Go.Proofs.Ytgnmhbkialgeaaa
open Go.RowKit Go.Proofs.YtgnmhbkialgeaaaW.PrintWords Go.Proofs.YtgnmhbkialgeaaaW.PrintLast Go.Proofs.YtgnmhbkialgeaaaW.PrintMore Math
theorem bset {B k j : Nat} {w W : World} {u : Value} (hk : B ≤ k) (h : Below B w W) : Below B w (W.setCell ⟨k, j, none⟩ u) := h.setCell (p := ⟨k, j, none⟩) hk u
def c8 (n0 n1 n2 n3 n4 : Int) (x y z : ByteArray) : Array Value := #[.int .i64 n0, .int .i64 n1, .int .i64 n2, .int .i64 n3, .int .i64 n4, .string x, .string y, .string z]
end Go.Proofs.Ytgnmhbkialgeaaa
end

section
namespace Go.Proofs.Ytgnmhbkialgeaaa
open Go.RowKit Go.Proofs.YtgnmhbkialgeaaaW.PrintWords Go.Proofs.YtgnmhbkialgeaaaW.PrintLast Go.Proofs.YtgnmhbkialgeaaaW.PrintMore Math
structure G2 (b k : Nat) (W V : World) : Prop where
 os : V.os = W.os
 tape : V.tape = W.tape
 output : V.output = W.output
 size : W.heap.size ≤ V.heap.size
 block : ∀ i, i < W.heap.size → i ≠ b → i ≠ k → V.heap[i]? = W.heap[i]?
theorem G2.of {b k : Nat} {W V : World} (h : W.grownBy V (some b)) : G2 b k W V := ⟨h.os, h.tape, h.output, h.size, fun i hi hb _ => h.block i hi (fun e => hb (Option.some.inj e))⟩
theorem G2.one {b k : Nat} {W V U : World} (h : G2 b k W V) (g : V.grownBy U (some b)) : G2 b k W U :=
 ⟨g.os.trans h.os, g.tape.trans h.tape, g.output.trans h.output, Nat.le_trans h.size g.size, fun i hi hb hk => (g.block i (Nat.lt_of_lt_of_le hi h.size) (fun e => hb (Option.some.inj e))).trans (h.block i hi hb hk)⟩
theorem G2.set {b k : Nat} {W V : World} (h : G2 b k W V) {j : Nat} {u : Value} : G2 b k W (V.setCell ⟨k, j, none⟩ u) :=
 ⟨h.os, h.tape, h.output, Nat.le_trans h.size (Below.setCell (Below.refl 0 V) (Nat.zero_le _) u).size, fun i hi hb hk => (Below.heap_setCell V ⟨k, j, none⟩ u i hk).trans (h.block i hi hb hk)⟩
theorem G2.row {b k : Nat} {W V : World} (h : G2 b k W V) {cs : Array Value} : G2 b k W (V.setRow k cs) :=
 ⟨h.os, h.tape, h.output, Nat.le_trans h.size (by rw [setRow_size]; exact Nat.le_refl _), fun i hi hb hk => (setRow_other V k i cs hk).trans (h.block i hi hb hk)⟩
theorem row_ {P : Program} {ops : Array Oper} {oi : Oper} {a : Act} {w : World} {K : Act → World → Prop} {Q : Exit → Act → World → Prop} (hw : Region.wanted oi (yielded ops a.tmps) = true) (hN : oi.dst = none) (ty : TypeId) (x y : Operand) (ho : oi.op = .store ty x y)
  (g : Nat) (cells : Array Value) (hx : a.eval x = .pointer (some ⟨g, 0, none⟩)) (hy : a.eval y = .agg cells) (t : TypeId) (old : Array Value) (hg : w.heap[g]? = some (.cells old t (0, 0))) (hi : (P.info? ty).map (·.size) = some cells.size)
  (hold : old.size = cells.size) (h1 : cells.all (·.oneCell') = true) (h : K a (w.setRow g cells)) : if Region.wanted oi (yielded ops a.tmps) = true then Oper.wp P oi a w K Q else K (a.put none undef) w := by
 rw [if_pos hw]
 refine wp_store_row ty x y ho g cells hx hy t old hg hi hold h1 ?_
 rw [hN]
 exact h
theorem G2.cells {b k : Nat} {W V : World} (h : G2 b k W V) {o : Nat} {vs : List Value} : G2 b k W (V.setCells k o vs) :=
 have hs := setCells_same k vs o V
 ⟨hs.1.trans h.os, hs.2.1.trans h.tape, hs.2.2.1.trans h.output, Nat.le_trans h.size (by rw [hs.2.2.2]; exact Nat.le_refl _), fun i hi hb hk => (setCells_far vs o i hk).trans (h.block i hi hb hk)⟩
theorem G2.refl (b k : Nat) (W : World) : G2 b k W W := ⟨rfl, rfl, rfl, Nat.le_refl _, fun _ _ _ _ => rfl⟩
theorem G2.drew {b k : Nat} {W V : World} (h : G2 b k W V) : G2 b k W V.drew := ⟨h.os, h.tape, h.output, h.size, h.block⟩
def mArr (l : List Int) (c : List Int) (x y z : ByteArray) : Array Value := #[.int .i64 (l.getD 0 0), .int .i64 (l.getD 1 0), .int .i64 (l.getD 2 0), .int .i64 (l.getD 3 0), .int .i64 (l.getD 4 0), .int .i64 (l.getD 5 0), .int .i64 (c.getD 0 0), .int .i64 (c.getD 1 0), .int .i64 (c.getD 2 0), .int .i64 (c.getD 3 0), .int .i64 (c.getD 4 0), .string x, .string y, .string z]
def rArr (l : List Int) (c : List Int) (x : ByteArray) (v : Value) : Array Value := #[.int .i64 (l.getD 0 0), .int .i64 (l.getD 1 0), .int .i64 (l.getD 2 0), .int .i64 (l.getD 3 0), .int .i64 (l.getD 4 0), .int .i64 (c.getD 0 0), .int .i64 (c.getD 1 0), .int .i64 (c.getD 2 0), .int .i64 (c.getD 3 0), .string x, v]
def msgR (s : List UInt8) (e : Int) : (List Int × List Int × List UInt8 × List UInt8 × List UInt8) × List UInt8 × Int :=
 (((numsR 6 s e).1, (callR (numsR 6 s e).2.1 (numsR 6 s e).2.2).1), (callR (numsR 6 s e).2.1 (numsR 6 s e).2.2).2)
def msgA (p : List Int × List Int × List UInt8 × List UInt8 × List UInt8) : Array Value := mArr p.1 p.2.1 ⟨p.2.2.1.toArray⟩ ⟨p.2.2.2.1.toArray⟩ ⟨p.2.2.2.2.toArray⟩
theorem info8 : (Try.prog.info? 23).map (·.size) = some 8 := by kernel_rfl
theorem num_at (b : Nat) {s s' : List UInt8} {e e' x : Int} (h : numR s e = (x, s', e')) (hs : s.length ≤ 8000000000000) (V : World) (hV : TB V b s e) :
  Calls Try.prog 42 #[.pointer (some ⟨b, 0, none⟩)] V fun y w' => y = .returned (.int .i64 x) ∧ TB w' b s' e' ∧ V.grownBy w' (some b) := by
 have := num_step b s e V hV hs
 rw [h] at this
 exact this
theorem num_len {s s' : List UInt8} {e e' x : Int} (h : numR s e = (x, s', e')) {n : Nat} (hs : s.length ≤ n) : s'.length ≤ n := by
 have := numR_le s e
 rw [h] at this
 exact Nat.le_trans this hs
theorem msg_last {W V : World} {b k : Nat} {s : List UInt8} {e x1 x2 x3 x4 x5 x6 n0 n1 n2 n3 n4 : Int} {y1 y2 y3 : ByteArray} (hne : k ≠ b) (ht : TB V b s e) (hm : CB V k (mArr [x1, x2, x3, x4, x5, x6] [] ⟨#[]⟩ ⟨#[]⟩ ⟨#[]⟩) 32) (hg : G2 b k W V) :
  TB (V.setCells k 6 [.int .i64 n0, .int .i64 n1, .int .i64 n2, .int .i64 n3, .int .i64 n4, .string y1, .string y2, .string y3]) b s e ∧
  CB (V.setCells k 6 [.int .i64 n0, .int .i64 n1, .int .i64 n2, .int .i64 n3, .int .i64 n4, .string y1, .string y2, .string y3]) k #[.int .i64 x1, .int .i64 x2, .int .i64 x3, .int .i64 x4, .int .i64 x5, .int .i64 x6, .int .i64 n0, .int .i64 n1, .int .i64 n2, .int .i64 n3, .int .i64 n4, .string y1, .string y2, .string y3] 32 ∧
  G2 b k W (V.setCells k 6 [.int .i64 n0, .int .i64 n1, .int .i64 n2, .int .i64 n3, .int .i64 n4, .string y1, .string y2, .string y3]) := by
 obtain ⟨cur, h1, h2, h3⟩ := setCells_row [.int .i64 n0, .int .i64 n1, .int .i64 n2, .int .i64 n3, .int .i64 n4, .string y1, .string y2, .string y3] 6 V _ hm (by simp [mArr])
 refine ⟨(setCells_far _ _ _ hne.symm).trans ht, ?_, hg.cells⟩
 unfold CB
 rw [h1]
 have h4 : cur = #[.int .i64 x1, .int .i64 x2, .int .i64 x3, .int .i64 x4, .int .i64 x5, .int .i64 x6, .int .i64 n0, .int .i64 n1, .int .i64 n2, .int .i64 n3, .int .i64 n4, .string y1, .string y2, .string y3] := by
  apply Array.toList_inj.1
  rw [h3]
  simp [mArr]
 rw [h4]
set_option maxHeartbeats 4000000 in
set_option maxRecDepth 1000000 in
theorem msg1_step (b k : Nat) (s : List UInt8) (w : World) (hb : TB w b s 0) (hm : CB w k (mArr [] [] ⟨#[]⟩ ⟨#[]⟩ ⟨#[]⟩) 32) (hne : k ≠ b) (hs : s.length ≤ 8000000000000) :
  Calls Try.prog 41 #[.pointer (some ⟨b, 0, none⟩), .pointer (some ⟨k, 0, none⟩)] w fun x w' => x = .returned (.tuple #[]) ∧ TB w' b (msgR s 0).2.1 (msgR s 0).2.2 ∧ CB w' k (msgA (msgR s 0).1) 32 ∧ G2 b k w w' := by
 obtain ⟨x1, s1, e1, h1⟩ : ∃ x s' e', numR s 0 = (x, s', e') := ⟨_, _, _, rfl⟩
 obtain ⟨x2, s2, e2, h2⟩ : ∃ x s' e', numR s1 e1 = (x, s', e') := ⟨_, _, _, rfl⟩
 obtain ⟨x3, s3, e3, h3⟩ : ∃ x s' e', numR s2 e2 = (x, s', e') := ⟨_, _, _, rfl⟩
 obtain ⟨x4, s4, e4, h4⟩ : ∃ x s' e', numR s3 e3 = (x, s', e') := ⟨_, _, _, rfl⟩
 obtain ⟨x5, s5, e5, h5⟩ : ∃ x s' e', numR s4 e4 = (x, s', e') := ⟨_, _, _, rfl⟩
 obtain ⟨x6, s6, e6, h6⟩ : ∃ x s' e', numR s5 e5 = (x, s', e') := ⟨_, _, _, rfl⟩
 have hN : numsR 6 s 0 = ([x1, x2, x3, x4, x5, x6], s6, e6) := by simp [numsR, h1, h2, h3, h4, h5, h6]
 have HRES : Hid (msgR s 0 = (([x1, x2, x3, x4, x5, x6], (callR s6 e6).1), (callR s6 e6).2)) := Lib.hid (by unfold msgR; rw [hN])
 have l1 := num_len h1 hs; have l2 := num_len h2 l1; have l3 := num_len h3 l2; have l4 := num_len h4 l3; have l5 := num_len h5 l4; have l6 := num_len h6 l5
 have HX1 := Lib.hid (num_at b h1 hs); have HX2 := Lib.hid (num_at b h2 l1); have HX3 := Lib.hid (num_at b h3 l2); have HX4 := Lib.hid (num_at b h4 l3); have HX5 := Lib.hid (num_at b h5 l4); have HX6 := Lib.hid (num_at b h6 l5)
 have HC := Lib.hid (fun V (h : TB V b s6 e6) => call_step b s6 e6 V h l6)
 have HT0 : Hid (TB w.drew b s 0) := Lib.hid hb
 have HM0 : Hid (CB w.drew k (mArr [] [] ⟨#[]⟩ ⟨#[]⟩ ⟨#[]⟩) 32) := Lib.hid hm
 have HG0 := Lib.hid (G2.refl b k w).drew
 have HNE := Lib.hid hne
 generalize callR s6 e6 = p at *
 obtain ⟨p, sr, er⟩ := p
 obtain ⟨n0, m0⟩ : ∃ n, p.1.getD 0 0 = n := ⟨_, rfl⟩
 obtain ⟨n1, m1⟩ : ∃ n, p.1.getD 1 0 = n := ⟨_, rfl⟩
 obtain ⟨n2, m2⟩ : ∃ n, p.1.getD 2 0 = n := ⟨_, rfl⟩
 obtain ⟨n3, m3⟩ : ∃ n, p.1.getD 3 0 = n := ⟨_, rfl⟩
 obtain ⟨n4, m4⟩ : ∃ n, p.1.getD 4 0 = n := ⟨_, rfl⟩
 have HP1 : Hid (callA p = #[.int .i64 n0, .int .i64 n1, .int .i64 n2, .int .i64 n3, .int .i64 n4, .string ⟨p.2.1.toArray⟩, .string ⟨p.2.2.1.toArray⟩, .string ⟨p.2.2.2.toArray⟩]) := Lib.hid (by unfold callA cArr; rw [m0, m1, m2, m3, m4])
 have HP2 : Hid (msgA ([x1, x2, x3, x4, x5, x6], p) = #[.int .i64 x1, .int .i64 x2, .int .i64 x3, .int .i64 x4, .int .i64 x5, .int .i64 x6, .int .i64 n0, .int .i64 n1, .int .i64 n2, .int .i64 n3, .int .i64 n4, .string ⟨p.2.1.toArray⟩, .string ⟨p.2.2.1.toArray⟩, .string ⟨p.2.2.2.toArray⟩]) := Lib.hid (by unfold msgA mArr; rw [m0, m1, m2, m3, m4]; rfl)
 clear m0 m1 m2 m3 m4
 generalize (⟨p.2.1.toArray⟩ : ByteArray) = y1 at *
 generalize (⟨p.2.2.1.toArray⟩ : ByteArray) = y2 at *
 generalize (⟨p.2.2.2.toArray⟩ : ByteArray) = y3 at *
 rw [HP1.out] at HC
 clear hN h1 h2 h3 h4 h5 h6 l1 l2 l3 l4 l5 l6 hb hm hne hs
 go_enter Try.func41, Try.ntmps41
 go_wp2_with fail
 refine start_ (n := 37) (S := fun w' => True) (ds := []) #[false, false, false, false, false, false, false, false, false, false, false, false, false, false, false, false, false, false, false, false, false, false, false, false, false, false, false, false, false, false, false, false, false, false, false, false, false] (by kernel_rfl) rfl rfl trivial (fun hHeld => ?_)
 refine pure_ (i := 0) (N := some 3) (v := ?_) (a' := ?_) #[true, false, false, false, false, false, false, false, false, false, false, false, false, false, false, false, false, false, false, false, false, false, false, false, false, false, false, false, false, false, false, false, false, false, false, false, false] rfl rfl (by kernel_rfl) (fun _ _ _ h => h) (Or.inl ⟨by rfl, ?_⟩) ?_ ?_
 (rotate_left; · (intro w'; go_simp; with_reducible rfl))
 (rotate_left; · (simp only [Act.put, List.setIfInBounds_toArray, List.set_cons_zero, List.set_cons_succ, i64_w, i32_w]; rfl))
 refine pure_ (i := 1) (N := some 4) (v := ?_) (a' := ?_) #[true, true, false, false, false, false, false, false, false, false, false, false, false, false, false, false, false, false, false, false, false, false, false, false, false, false, false, false, false, false, false, false, false, false, false, false, false] rfl rfl (by kernel_rfl) (fun _ _ _ h => h) (Or.inl ⟨by rfl, ?_⟩) ?_ ?_
 (rotate_left; · (intro w'; go_simp; with_reducible rfl))
 (rotate_left; · (simp only [Act.put, List.setIfInBounds_toArray, List.set_cons_zero, List.set_cons_succ, i64_w, i32_w]; rfl))
 refine pure_ (i := 2) (N := some 5) (v := ?_) (a' := ?_) #[true, true, true, false, false, false, false, false, false, false, false, false, false, false, false, false, false, false, false, false, false, false, false, false, false, false, false, false, false, false, false, false, false, false, false, false, false] rfl rfl (by kernel_rfl) (fun _ _ _ h => h) (Or.inl ⟨by rfl, ?_⟩) ?_ ?_
 (rotate_left; · (intro w'; go_simp; with_reducible rfl))
 (rotate_left; · (simp only [Act.put, List.setIfInBounds_toArray, List.set_cons_zero, List.set_cons_succ, i64_w, i32_w]; rfl))
 refine pure_ (i := 4) (N := some 7) (v := ?_) (a' := ?_) #[true, true, true, false, true, false, false, false, false, false, false, false, false, false, false, false, false, false, false, false, false, false, false, false, false, false, false, false, false, false, false, false, false, false, false, false, false] rfl rfl (by kernel_rfl) (fun _ _ _ h => h) (Or.inl ⟨by rfl, ?_⟩) ?_ ?_
 (rotate_left; · (intro w'; go_simp; with_reducible rfl))
 (rotate_left; · (simp only [Act.put, List.setIfInBounds_toArray, List.set_cons_zero, List.set_cons_succ, i64_w, i32_w]; rfl))
 refine pure_ (i := 5) (N := some 8) (v := ?_) (a' := ?_) #[true, true, true, false, true, true, false, false, false, false, false, false, false, false, false, false, false, false, false, false, false, false, false, false, false, false, false, false, false, false, false, false, false, false, false, false, false] rfl rfl (by kernel_rfl) (fun _ _ _ h => h) (Or.inl ⟨by rfl, ?_⟩) ?_ ?_
 (rotate_left; · (intro w'; go_simp; with_reducible rfl))
 (rotate_left; · (simp only [Act.put, List.setIfInBounds_toArray, List.set_cons_zero, List.set_cons_succ, i64_w, i32_w]; rfl))
 refine pure_ (i := 6) (N := some 9) (v := ?_) (a' := ?_) #[true, true, true, false, true, true, true, false, false, false, false, false, false, false, false, false, false, false, false, false, false, false, false, false, false, false, false, false, false, false, false, false, false, false, false, false, false] rfl rfl (by kernel_rfl) (fun _ _ _ h => h) (Or.inl ⟨by rfl, ?_⟩) ?_ ?_
 (rotate_left; · (intro w'; go_simp; with_reducible rfl))
 (rotate_left; · (simp only [Act.put, List.setIfInBounds_toArray, List.set_cons_zero, List.set_cons_succ, i64_w, i32_w]; rfl))
 refine pure_ (i := 8) (N := some 11) (v := ?_) (a' := ?_) #[true, true, true, false, true, true, true, false, true, false, false, false, false, false, false, false, false, false, false, false, false, false, false, false, false, false, false, false, false, false, false, false, false, false, false, false, false] rfl rfl (by kernel_rfl) (fun _ _ _ h => h) (Or.inl ⟨by rfl, ?_⟩) ?_ ?_
 (rotate_left; · (intro w'; go_simp; with_reducible rfl))
 (rotate_left; · (simp only [Act.put, List.setIfInBounds_toArray, List.set_cons_zero, List.set_cons_succ, i64_w, i32_w]; rfl))
 refine pure_ (i := 9) (N := some 12) (v := ?_) (a' := ?_) #[true, true, true, false, true, true, true, false, true, true, false, false, false, false, false, false, false, false, false, false, false, false, false, false, false, false, false, false, false, false, false, false, false, false, false, false, false] rfl rfl (by kernel_rfl) (fun _ _ _ h => h) (Or.inl ⟨by rfl, ?_⟩) ?_ ?_
 (rotate_left; · (intro w'; go_simp; with_reducible rfl))
 (rotate_left; · (simp only [Act.put, List.setIfInBounds_toArray, List.set_cons_zero, List.set_cons_succ, i64_w, i32_w]; rfl))
 refine pure_ (i := 10) (N := some 13) (v := ?_) (a' := ?_) #[true, true, true, false, true, true, true, false, true, true, true, false, false, false, false, false, false, false, false, false, false, false, false, false, false, false, false, false, false, false, false, false, false, false, false, false, false] rfl rfl (by kernel_rfl) (fun _ _ _ h => h) (Or.inl ⟨by rfl, ?_⟩) ?_ ?_
 (rotate_left; · (intro w'; go_simp; with_reducible rfl))
 (rotate_left; · (simp only [Act.put, List.setIfInBounds_toArray, List.set_cons_zero, List.set_cons_succ, i64_w, i32_w]; rfl))
 refine pure_ (i := 12) (N := some 15) (v := ?_) (a' := ?_) #[true, true, true, false, true, true, true, false, true, true, true, false, true, false, false, false, false, false, false, false, false, false, false, false, false, false, false, false, false, false, false, false, false, false, false, false, false] rfl rfl (by kernel_rfl) (fun _ _ _ h => h) (Or.inl ⟨by rfl, ?_⟩) ?_ ?_
 (rotate_left; · (intro w'; go_simp; with_reducible rfl))
 (rotate_left; · (simp only [Act.put, List.setIfInBounds_toArray, List.set_cons_zero, List.set_cons_succ, i64_w, i32_w]; rfl))
 refine pure_ (i := 13) (N := some 16) (v := ?_) (a' := ?_) #[true, true, true, false, true, true, true, false, true, true, true, false, true, true, false, false, false, false, false, false, false, false, false, false, false, false, false, false, false, false, false, false, false, false, false, false, false] rfl rfl (by kernel_rfl) (fun _ _ _ h => h) (Or.inl ⟨by rfl, ?_⟩) ?_ ?_
 (rotate_left; · (intro w'; go_simp; with_reducible rfl))
 (rotate_left; · (simp only [Act.put, List.setIfInBounds_toArray, List.set_cons_zero, List.set_cons_succ, i64_w, i32_w]; rfl))
 refine pure_ (i := 14) (N := some 17) (v := ?_) (a' := ?_) #[true, true, true, false, true, true, true, false, true, true, true, false, true, true, true, false, false, false, false, false, false, false, false, false, false, false, false, false, false, false, false, false, false, false, false, false, false] rfl rfl (by kernel_rfl) (fun _ _ _ h => h) (Or.inl ⟨by rfl, ?_⟩) ?_ ?_
 (rotate_left; · (intro w'; go_simp; with_reducible rfl))
 (rotate_left; · (simp only [Act.put, List.setIfInBounds_toArray, List.set_cons_zero, List.set_cons_succ, i64_w, i32_w]; rfl))
 refine pure_ (i := 16) (N := some 19) (v := ?_) (a' := ?_) #[true, true, true, false, true, true, true, false, true, true, true, false, true, true, true, false, true, false, false, false, false, false, false, false, false, false, false, false, false, false, false, false, false, false, false, false, false] rfl rfl (by kernel_rfl) (fun _ _ _ h => h) (Or.inl ⟨by rfl, ?_⟩) ?_ ?_
 (rotate_left; · (intro w'; go_simp; with_reducible rfl))
 (rotate_left; · (simp only [Act.put, List.setIfInBounds_toArray, List.set_cons_zero, List.set_cons_succ, i64_w, i32_w]; rfl))
 refine pure_ (i := 17) (N := some 20) (v := ?_) (a' := ?_) #[true, true, true, false, true, true, true, false, true, true, true, false, true, true, true, false, true, true, false, false, false, false, false, false, false, false, false, false, false, false, false, false, false, false, false, false, false] rfl rfl (by kernel_rfl) (fun _ _ _ h => h) (Or.inl ⟨by rfl, ?_⟩) ?_ ?_
 (rotate_left; · (intro w'; go_simp; with_reducible rfl))
 (rotate_left; · (simp only [Act.put, List.setIfInBounds_toArray, List.set_cons_zero, List.set_cons_succ, i64_w, i32_w]; rfl))
 refine pure_ (i := 18) (N := some 21) (v := ?_) (a' := ?_) #[true, true, true, false, true, true, true, false, true, true, true, false, true, true, true, false, true, true, true, false, false, false, false, false, false, false, false, false, false, false, false, false, false, false, false, false, false] rfl rfl (by kernel_rfl) (fun _ _ _ h => h) (Or.inl ⟨by rfl, ?_⟩) ?_ ?_
 (rotate_left; · (intro w'; go_simp; with_reducible rfl))
 (rotate_left; · (simp only [Act.put, List.setIfInBounds_toArray, List.set_cons_zero, List.set_cons_succ, i64_w, i32_w]; rfl))
 refine pure_ (i := 20) (N := some 23) (v := ?_) (a' := ?_) #[true, true, true, false, true, true, true, false, true, true, true, false, true, true, true, false, true, true, true, false, true, false, false, false, false, false, false, false, false, false, false, false, false, false, false, false, false] rfl rfl (by kernel_rfl) (fun _ _ _ h => h) (Or.inl ⟨by rfl, ?_⟩) ?_ ?_
 (rotate_left; · (intro w'; go_simp; with_reducible rfl))
 (rotate_left; · (simp only [Act.put, List.setIfInBounds_toArray, List.set_cons_zero, List.set_cons_succ, i64_w, i32_w]; rfl))
 refine pure_ (i := 21) (N := some 24) (v := ?_) (a' := ?_) #[true, true, true, false, true, true, true, false, true, true, true, false, true, true, true, false, true, true, true, false, true, true, false, false, false, false, false, false, false, false, false, false, false, false, false, false, false] rfl rfl (by kernel_rfl) (fun _ _ _ h => h) (Or.inl ⟨by rfl, ?_⟩) ?_ ?_
 (rotate_left; · (intro w'; go_simp; with_reducible rfl))
 (rotate_left; · (simp only [Act.put, List.setIfInBounds_toArray, List.set_cons_zero, List.set_cons_succ, i64_w, i32_w]; rfl))
 refine pure_ (i := 22) (N := some 25) (v := ?_) (a' := ?_) #[true, true, true, false, true, true, true, false, true, true, true, false, true, true, true, false, true, true, true, false, true, true, true, false, false, false, false, false, false, false, false, false, false, false, false, false, false] rfl rfl (by kernel_rfl) (fun _ _ _ h => h) (Or.inl ⟨by rfl, ?_⟩) ?_ ?_
 (rotate_left; · (intro w'; go_simp; with_reducible rfl))
 (rotate_left; · (simp only [Act.put, List.setIfInBounds_toArray, List.set_cons_zero, List.set_cons_succ, i64_w, i32_w]; rfl))
 refine one_ (i := 3) (N := some 6) #[true, true, true, true, true, true, true, false, true, true, true, false, true, true, true, false, true, true, true, false, true, true, true, false, false, false, false, false, false, false, false, false, false, false, false, false, false] rfl rfl (by kernel_rfl) (by decide) (fun K hK => ?_)
 refine goes_ Try.func42 (by kernel_rfl) rfl #[.pointer (some ⟨b, 0, none⟩)] (by rfl) rfl rfl (by simp only [List.map_toArray, List.map_cons, List.map_nil]; rfl) ?_
 with_reducible refine ((HX1.out _ HT0.out)).mono ?_
 rintro e w11 ⟨rfl, ht, hg⟩
 refine ⟨_, rfl, ?_⟩
 have HT1 := Lib.hid ht; have HM1 := Lib.hid (HM0.out.grown hg HNE.out); have HG1 := Lib.hid (HG0.out.one hg)
 clear ht hg
 refine hK.out _ _ trivial (fun hHeld => ?_)
 clear hK K
 refine norm_ (a' := ?_) ?_ ?_
 rotate_left
 ·show Act.put _ (some 6) _ = _
  simp only [Act.put, List.setIfInBounds_toArray, List.set_cons_zero, List.set_cons_succ, i64_w, i32_w]
  rfl
 refine one_ (i := 7) (N := some 10) #[true, true, true, true, true, true, true, true, true, true, true, false, true, true, true, false, true, true, true, false, true, true, true, false, false, false, false, false, false, false, false, false, false, false, false, false, false] rfl rfl (by kernel_rfl) (by decide) (fun K hK => ?_)
 refine goes_ Try.func42 (by kernel_rfl) rfl #[.pointer (some ⟨b, 0, none⟩)] (by rfl) rfl rfl (by simp only [List.map_toArray, List.map_cons, List.map_nil]; rfl) ?_
 with_reducible refine ((HX2.out _ HT1.out)).mono ?_
 rintro e w12 ⟨rfl, ht, hg⟩
 refine ⟨_, rfl, ?_⟩
 have HT2 := Lib.hid ht; have HM2 := Lib.hid (HM1.out.grown hg HNE.out); have HG2 := Lib.hid (HG1.out.one hg)
 clear ht hg
 refine hK.out _ _ trivial (fun hHeld => ?_)
 clear hK K
 refine norm_ (a' := ?_) ?_ ?_
 rotate_left
 ·show Act.put _ (some 10) _ = _
  simp only [Act.put, List.setIfInBounds_toArray, List.set_cons_zero, List.set_cons_succ, i64_w, i32_w]
  rfl
 refine one_ (i := 11) (N := some 14) #[true, true, true, true, true, true, true, true, true, true, true, true, true, true, true, false, true, true, true, false, true, true, true, false, false, false, false, false, false, false, false, false, false, false, false, false, false] rfl rfl (by kernel_rfl) (by decide) (fun K hK => ?_)
 refine goes_ Try.func42 (by kernel_rfl) rfl #[.pointer (some ⟨b, 0, none⟩)] (by rfl) rfl rfl (by simp only [List.map_toArray, List.map_cons, List.map_nil]; rfl) ?_
 with_reducible refine ((HX3.out _ HT2.out)).mono ?_
 rintro e w13 ⟨rfl, ht, hg⟩
 refine ⟨_, rfl, ?_⟩
 have HT3 := Lib.hid ht; have HM3 := Lib.hid (HM2.out.grown hg HNE.out); have HG3 := Lib.hid (HG2.out.one hg)
 clear ht hg
 refine hK.out _ _ trivial (fun hHeld => ?_)
 clear hK K
 refine norm_ (a' := ?_) ?_ ?_
 rotate_left
 ·show Act.put _ (some 14) _ = _
  simp only [Act.put, List.setIfInBounds_toArray, List.set_cons_zero, List.set_cons_succ, i64_w, i32_w]
  rfl
 refine one_ (i := 15) (N := some 18) #[true, true, true, true, true, true, true, true, true, true, true, true, true, true, true, true, true, true, true, false, true, true, true, false, false, false, false, false, false, false, false, false, false, false, false, false, false] rfl rfl (by kernel_rfl) (by decide) (fun K hK => ?_)
 refine goes_ Try.func42 (by kernel_rfl) rfl #[.pointer (some ⟨b, 0, none⟩)] (by rfl) rfl rfl (by simp only [List.map_toArray, List.map_cons, List.map_nil]; rfl) ?_
 with_reducible refine ((HX4.out _ HT3.out)).mono ?_
 rintro e w14 ⟨rfl, ht, hg⟩
 refine ⟨_, rfl, ?_⟩
 have HT4 := Lib.hid ht; have HM4 := Lib.hid (HM3.out.grown hg HNE.out); have HG4 := Lib.hid (HG3.out.one hg)
 clear ht hg
 refine hK.out _ _ trivial (fun hHeld => ?_)
 clear hK K
 refine norm_ (a' := ?_) ?_ ?_
 rotate_left
 ·show Act.put _ (some 18) _ = _
  simp only [Act.put, List.setIfInBounds_toArray, List.set_cons_zero, List.set_cons_succ, i64_w, i32_w]
  rfl
 refine one_ (i := 19) (N := some 22) #[true, true, true, true, true, true, true, true, true, true, true, true, true, true, true, true, true, true, true, true, true, true, true, false, false, false, false, false, false, false, false, false, false, false, false, false, false] rfl rfl (by kernel_rfl) (by decide) (fun K hK => ?_)
 refine goes_ Try.func42 (by kernel_rfl) rfl #[.pointer (some ⟨b, 0, none⟩)] (by rfl) rfl rfl (by simp only [List.map_toArray, List.map_cons, List.map_nil]; rfl) ?_
 with_reducible refine ((HX5.out _ HT4.out)).mono ?_
 rintro e w15 ⟨rfl, ht, hg⟩
 refine ⟨_, rfl, ?_⟩
 have HT5 := Lib.hid ht; have HM5 := Lib.hid (HM4.out.grown hg HNE.out); have HG5 := Lib.hid (HG4.out.one hg)
 clear ht hg
 refine hK.out _ _ trivial (fun hHeld => ?_)
 clear hK K
 refine norm_ (a' := ?_) ?_ ?_
 rotate_left
 ·show Act.put _ (some 22) _ = _
  simp only [Act.put, List.setIfInBounds_toArray, List.set_cons_zero, List.set_cons_succ, i64_w, i32_w]
  rfl
 refine one_ (i := 23) (N := some 26) #[true, true, true, true, true, true, true, true, true, true, true, true, true, true, true, true, true, true, true, true, true, true, true, true, false, false, false, false, false, false, false, false, false, false, false, false, false] rfl rfl (by kernel_rfl) (by decide) (fun K hK => ?_)
 refine goes_ Try.func42 (by kernel_rfl) rfl #[.pointer (some ⟨b, 0, none⟩)] (by rfl) rfl rfl (by simp only [List.map_toArray, List.map_cons, List.map_nil]; rfl) ?_
 with_reducible refine ((HX6.out _ HT5.out)).mono ?_
 rintro e w16 ⟨rfl, ht, hg⟩
 refine ⟨_, rfl, ?_⟩
 have HT6 := Lib.hid ht; have HM6 := Lib.hid (HM5.out.grown hg HNE.out); have HG6 := Lib.hid (HG5.out.one hg)
 clear ht hg
 refine hK.out _ _ trivial (fun hHeld => ?_)
 clear hK K
 refine norm_ (a' := ?_) ?_ ?_
 rotate_left
 ·show Act.put _ (some 26) _ = _
  simp only [Act.put, List.setIfInBounds_toArray, List.set_cons_zero, List.set_cons_succ, i64_w, i32_w]
  rfl
 refine one_ (i := 24) (N := none) #[true, true, true, true, true, true, true, true, true, true, true, true, true, true, true, true, true, true, true, true, true, true, true, true, true, false, false, false, false, false, false, false, false, false, false, false, false] rfl rfl (by kernel_rfl) (by decide) (fun K hK => ?_)
 refine row_ (by rfl) rfl 32 (.tmp 1) (.const (.agg (mArr [] [] ⟨#[]⟩ ⟨#[]⟩ ⟨#[]⟩))) rfl k (mArr [] [] ⟨#[]⟩ ⟨#[]⟩ ⟨#[]⟩) rfl rfl 32 _ HM6.out (by kernel_rfl) rfl (by kernel_rfl) ?_
 have HMz : Hid (CB (w16.setRow k (mArr [] [] ⟨#[]⟩ ⟨#[]⟩ ⟨#[]⟩)) k (mArr [] [] ⟨#[]⟩ ⟨#[]⟩ ⟨#[]⟩) 32) := Lib.hid (setRow_heap _ _ _ _ _ _ HM6.out)
 have HTz : Hid (TB (w16.setRow k (mArr [] [] ⟨#[]⟩ ⟨#[]⟩ ⟨#[]⟩)) b _ _) := Lib.hid ((setRow_other _ _ _ _ HNE.out.symm).trans HT6.out)
 have HGz := Lib.hid (HG6.out.row (cs := mArr [] [] ⟨#[]⟩ ⟨#[]⟩ ⟨#[]⟩))
 generalize w16.setRow k (mArr [] [] ⟨#[]⟩ ⟨#[]⟩ ⟨#[]⟩) = vz at *
 have hm := HMz.out
 have qq := blk_cell hm 0; have ff := blk_frozen hm 0
 clear hm
 simp only [mArr, rArr, List.getElem?_toArray, List.getElem?_cons_zero, List.getElem?_cons_succ] at qq
 refine hK.out _ _ trivial (fun hHeld => ?_)
 clear hK K
 refine pure_ (i := 25) (N := some 27) (v := ?_) (a' := ?_) #[true, true, true, true, true, true, true, true, true, true, true, true, true, true, true, true, true, true, true, true, true, true, true, true, true, true, false, false, false, false, false, false, false, false, false, false, false] rfl rfl (by kernel_rfl) (fun _ _ _ h => h) (Or.inl ⟨by rfl, ?_⟩) ?_ ?_
 (rotate_left; · (intro w'; go_simp; with_reducible rfl))
 (rotate_left; · (simp only [Act.put, List.setIfInBounds_toArray, List.set_cons_zero, List.set_cons_succ, i64_w, i32_w]; rfl))
 refine one_ (i := 26) (N := none) #[true, true, true, true, true, true, true, true, true, true, true, true, true, true, true, true, true, true, true, true, true, true, true, true, true, true, true, false, false, false, false, false, false, false, false, false, false] rfl rfl (by kernel_rfl) (by decide) (fun K hK => ?_)
 refine skip_ (w1 := ?_) (by rfl) rfl ?_ ?_
 rotate_left
 ·go_simp
  rfl
 clear qq ff
 have HMv1 : Hid (CB (vz.setCell ⟨k, 0, none⟩ (.int .i64 x1)) k (mArr [x1] [] ⟨#[]⟩ ⟨#[]⟩ ⟨#[]⟩) 32) := Lib.hid (HMz.out.set 0 _ rfl); have HTv1 := Lib.hid (HTz.out.far (j := 0) (u := .int .i64 x1) HNE.out.symm); have HGv1 := Lib.hid (HGz.out.set (j := 0) (u := .int .i64 x1))
 generalize vz.setCell ⟨k, 0, none⟩ (.int .i64 x1) = v1 at *
 have hm := HMv1.out
 have qq := blk_cell hm 1; have ff := blk_frozen hm 1
 clear hm
 simp only [mArr, rArr, List.getElem?_toArray, List.getElem?_cons_zero, List.getElem?_cons_succ] at qq
 refine hK.out _ _ trivial (fun hHeld => ?_)
 clear hK K
 refine pure_ (i := 27) (N := some 28) (v := ?_) (a' := ?_) #[true, true, true, true, true, true, true, true, true, true, true, true, true, true, true, true, true, true, true, true, true, true, true, true, true, true, true, true, false, false, false, false, false, false, false, false, false] rfl rfl (by kernel_rfl) (fun _ _ _ h => h) (Or.inl ⟨by rfl, ?_⟩) ?_ ?_
 (rotate_left; · (intro w'; go_simp; with_reducible rfl))
 (rotate_left; · (simp only [Act.put, List.setIfInBounds_toArray, List.set_cons_zero, List.set_cons_succ, i64_w, i32_w]; rfl))
 refine one_ (i := 28) (N := none) #[true, true, true, true, true, true, true, true, true, true, true, true, true, true, true, true, true, true, true, true, true, true, true, true, true, true, true, true, true, false, false, false, false, false, false, false, false] rfl rfl (by kernel_rfl) (by decide) (fun K hK => ?_)
 refine skip_ (w1 := ?_) (by rfl) rfl ?_ ?_
 rotate_left
 ·go_simp
  rfl
 clear qq ff
 have HMv2 : Hid (CB (v1.setCell ⟨k, 1, none⟩ (.int .i64 x2)) k (mArr [x1, x2] [] ⟨#[]⟩ ⟨#[]⟩ ⟨#[]⟩) 32) := Lib.hid (HMv1.out.set 1 _ rfl); have HTv2 := Lib.hid (HTv1.out.far (j := 1) (u := .int .i64 x2) HNE.out.symm); have HGv2 := Lib.hid (HGv1.out.set (j := 1) (u := .int .i64 x2))
 generalize v1.setCell ⟨k, 1, none⟩ (.int .i64 x2) = v2 at *
 have hm := HMv2.out
 have qq := blk_cell hm 2; have ff := blk_frozen hm 2
 clear hm
 simp only [mArr, rArr, List.getElem?_toArray, List.getElem?_cons_zero, List.getElem?_cons_succ] at qq
 refine hK.out _ _ trivial (fun hHeld => ?_)
 clear hK K
 refine pure_ (i := 29) (N := some 29) (v := ?_) (a' := ?_) #[true, true, true, true, true, true, true, true, true, true, true, true, true, true, true, true, true, true, true, true, true, true, true, true, true, true, true, true, true, true, false, false, false, false, false, false, false] rfl rfl (by kernel_rfl) (fun _ _ _ h => h) (Or.inl ⟨by rfl, ?_⟩) ?_ ?_
 (rotate_left; · (intro w'; go_simp; with_reducible rfl))
 (rotate_left; · (simp only [Act.put, List.setIfInBounds_toArray, List.set_cons_zero, List.set_cons_succ, i64_w, i32_w]; rfl))
 refine one_ (i := 30) (N := none) #[true, true, true, true, true, true, true, true, true, true, true, true, true, true, true, true, true, true, true, true, true, true, true, true, true, true, true, true, true, true, true, false, false, false, false, false, false] rfl rfl (by kernel_rfl) (by decide) (fun K hK => ?_)
 refine skip_ (w1 := ?_) (by rfl) rfl ?_ ?_
 rotate_left
 ·go_simp
  rfl
 clear qq ff
 have HMv3 : Hid (CB (v2.setCell ⟨k, 2, none⟩ (.int .i64 x3)) k (mArr [x1, x2, x3] [] ⟨#[]⟩ ⟨#[]⟩ ⟨#[]⟩) 32) := Lib.hid (HMv2.out.set 2 _ rfl); have HTv3 := Lib.hid (HTv2.out.far (j := 2) (u := .int .i64 x3) HNE.out.symm); have HGv3 := Lib.hid (HGv2.out.set (j := 2) (u := .int .i64 x3))
 generalize v2.setCell ⟨k, 2, none⟩ (.int .i64 x3) = v3 at *
 have hm := HMv3.out
 have qq := blk_cell hm 3; have ff := blk_frozen hm 3
 clear hm
 simp only [mArr, rArr, List.getElem?_toArray, List.getElem?_cons_zero, List.getElem?_cons_succ] at qq
 refine hK.out _ _ trivial (fun hHeld => ?_)
 clear hK K
 refine pure_ (i := 31) (N := some 30) (v := ?_) (a' := ?_) #[true, true, true, true, true, true, true, true, true, true, true, true, true, true, true, true, true, true, true, true, true, true, true, true, true, true, true, true, true, true, true, true, false, false, false, false, false] rfl rfl (by kernel_rfl) (fun _ _ _ h => h) (Or.inl ⟨by rfl, ?_⟩) ?_ ?_
 (rotate_left; · (intro w'; go_simp; with_reducible rfl))
 (rotate_left; · (simp only [Act.put, List.setIfInBounds_toArray, List.set_cons_zero, List.set_cons_succ, i64_w, i32_w]; rfl))
 refine one_ (i := 32) (N := none) #[true, true, true, true, true, true, true, true, true, true, true, true, true, true, true, true, true, true, true, true, true, true, true, true, true, true, true, true, true, true, true, true, true, false, false, false, false] rfl rfl (by kernel_rfl) (by decide) (fun K hK => ?_)
 refine skip_ (w1 := ?_) (by rfl) rfl ?_ ?_
 rotate_left
 ·go_simp
  rfl
 clear qq ff
 have HMv4 : Hid (CB (v3.setCell ⟨k, 3, none⟩ (.int .i64 x4)) k (mArr [x1, x2, x3, x4] [] ⟨#[]⟩ ⟨#[]⟩ ⟨#[]⟩) 32) := Lib.hid (HMv3.out.set 3 _ rfl); have HTv4 := Lib.hid (HTv3.out.far (j := 3) (u := .int .i64 x4) HNE.out.symm); have HGv4 := Lib.hid (HGv3.out.set (j := 3) (u := .int .i64 x4))
 generalize v3.setCell ⟨k, 3, none⟩ (.int .i64 x4) = v4 at *
 have hm := HMv4.out
 have qq := blk_cell hm 4; have ff := blk_frozen hm 4
 clear hm
 simp only [mArr, rArr, List.getElem?_toArray, List.getElem?_cons_zero, List.getElem?_cons_succ] at qq
 refine hK.out _ _ trivial (fun hHeld => ?_)
 clear hK K
 refine pure_ (i := 33) (N := some 31) (v := ?_) (a' := ?_) #[true, true, true, true, true, true, true, true, true, true, true, true, true, true, true, true, true, true, true, true, true, true, true, true, true, true, true, true, true, true, true, true, true, true, false, false, false] rfl rfl (by kernel_rfl) (fun _ _ _ h => h) (Or.inl ⟨by rfl, ?_⟩) ?_ ?_
 (rotate_left; · (intro w'; go_simp; with_reducible rfl))
 (rotate_left; · (simp only [Act.put, List.setIfInBounds_toArray, List.set_cons_zero, List.set_cons_succ, i64_w, i32_w]; rfl))
 refine one_ (i := 34) (N := none) #[true, true, true, true, true, true, true, true, true, true, true, true, true, true, true, true, true, true, true, true, true, true, true, true, true, true, true, true, true, true, true, true, true, true, true, false, false] rfl rfl (by kernel_rfl) (by decide) (fun K hK => ?_)
 refine skip_ (w1 := ?_) (by rfl) rfl ?_ ?_
 rotate_left
 ·go_simp
  rfl
 clear qq ff
 have HMv5 : Hid (CB (v4.setCell ⟨k, 4, none⟩ (.int .i64 x5)) k (mArr [x1, x2, x3, x4, x5] [] ⟨#[]⟩ ⟨#[]⟩ ⟨#[]⟩) 32) := Lib.hid (HMv4.out.set 4 _ rfl); have HTv5 := Lib.hid (HTv4.out.far (j := 4) (u := .int .i64 x5) HNE.out.symm); have HGv5 := Lib.hid (HGv4.out.set (j := 4) (u := .int .i64 x5))
 generalize v4.setCell ⟨k, 4, none⟩ (.int .i64 x5) = v5 at *
 have hm := HMv5.out
 have qq := blk_cell hm 5; have ff := blk_frozen hm 5
 clear hm
 simp only [mArr, rArr, List.getElem?_toArray, List.getElem?_cons_zero, List.getElem?_cons_succ] at qq
 refine hK.out _ _ trivial (fun hHeld => ?_)
 clear hK K
 refine pure_ (i := 35) (N := some 32) (v := ?_) (a' := ?_) #[true, true, true, true, true, true, true, true, true, true, true, true, true, true, true, true, true, true, true, true, true, true, true, true, true, true, true, true, true, true, true, true, true, true, true, true, false] rfl rfl (by kernel_rfl) (fun _ _ _ h => h) (Or.inl ⟨by rfl, ?_⟩) ?_ ?_
 (rotate_left; · (intro w'; go_simp; with_reducible rfl))
 (rotate_left; · (simp only [Act.put, List.setIfInBounds_toArray, List.set_cons_zero, List.set_cons_succ, i64_w, i32_w]; rfl))
 refine one_ (i := 36) (N := none) #[true, true, true, true, true, true, true, true, true, true, true, true, true, true, true, true, true, true, true, true, true, true, true, true, true, true, true, true, true, true, true, true, true, true, true, true, true] rfl rfl (by kernel_rfl) (by decide) (fun K hK => ?_)
 refine skip_ (w1 := ?_) (by rfl) rfl ?_ ?_
 rotate_left
 ·go_simp
  rfl
 clear qq ff
 have HMv6 : Hid (CB (v5.setCell ⟨k, 5, none⟩ (.int .i64 x6)) k (mArr [x1, x2, x3, x4, x5, x6] [] ⟨#[]⟩ ⟨#[]⟩ ⟨#[]⟩) 32) := Lib.hid (HMv5.out.set 5 _ rfl); have HTv6 := Lib.hid (HTv5.out.far (j := 5) (u := .int .i64 x6) HNE.out.symm); have HGv6 := Lib.hid (HGv5.out.set (j := 5) (u := .int .i64 x6))
 generalize v5.setCell ⟨k, 5, none⟩ (.int .i64 x6) = v6 at *
 refine hK.out _ _ trivial (fun hHeld => ?_)
 clear hK K
 refine done_ (by kernel_rfl) ?_
 go_wp2_with fail
 refine (HC.out _ HTv6.out).mono ?_
 rintro e w20 ⟨rfl, ht, hg⟩
 have HT20 := Lib.hid ht
 have hm := HMv6.out.grown hg HNE.out
 have HG20 := Lib.hid (HGv6.out.one hg)
 have HM20 := Lib.hid hm
 have hth : w20.there k 6 8 := fun j hj => by
  refine ⟨?_, blk_frozen hm _⟩
  rw [blk_cell hm, Array.getElem?_eq_getElem (show 6 + j < _ by show 6 + j < 14; omega)]; rfl
 have HTH := Lib.hid hth
 obtain ⟨ht21, hm21, hg21⟩ := msg_last (n0 := n0) (n1 := n1) (n2 := n2) (n3 := n3) (n4 := n4) (y1 := y1) (y2 := y2) (y3 := y3) HNE.out HT20.out HM20.out HG20.out
 have HT21 := Lib.hid ht21; have HM21 := Lib.hid hm21; have HG21 := Lib.hid hg21
 clear ht21 hm21 hg21
 have HI8 := Lib.hid info8
 have HO8 := Lib.hid (show (#[.int .i64 n0, .int .i64 n1, .int .i64 n2, .int .i64 n3, .int .i64 n4, .string y1, .string y2, .string y3] : Array Value).all (·.oneCell') = true by simp [Value.oneCell'])
 clear ht hg hm hth
 go_wp2_with (refine wpList_store_mid rfl 23 (.tmp 35) (.tmp 34) rfl k 6 #[.int .i64 n0, .int .i64 n1, .int .i64 n2, .int .i64 n3, .int .i64 n4, .string y1, .string y2, .string y3] rfl rfl HTH.out HI8.out HO8.out ?_)
 go_end0
 rw [HRES.out]
 refine ⟨rfl, ?_, ?_, ?_⟩
 ·exact HT21.out
 ·rw [HP2.out]
  exact HM21.out
 ·exact HG21.out
end Go.Proofs.Ytgnmhbkialgeaaa
end
