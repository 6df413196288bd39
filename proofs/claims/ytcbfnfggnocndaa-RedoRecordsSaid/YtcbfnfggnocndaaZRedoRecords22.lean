import Derived.Test.YtcbfnfggnocndaaProg
import Derived.Below
import Derived.Deep.Draws
import Derived.Deep.AppendLies
import Derived.Maps.AppendAt
import Derived.OwnWalk
import Derived.Laws.BytesArg
import Derived.Laws.MakeOwn
import Derived.Laws.OwnMore
import Derived.Deep.OwnRows
import Derived.Tactics
import Derived.Lib.ConvBytes
import Derived.Laws.Slices
import Derived.WalkKit
import Derived.KernelRfl
import Derived.RowKit3
import Derived.Deep.LoopGhost
import Derived.Deep.QuietTactic
import Derived.BigQuiet
import Derived.WideLaws
import Derived.Deep.DeepCutAuto
import Derived.Deep.CutBlock
import Derived.Deep.RegionHeld3
import Derived.Laws.Rows
import Derived.Lib.AppendStr
import Derived.ArgAppend
import Derived.Laws.IdiomCopy
import Derived.OrdersHeld
import Derived.Laws.BitsLemmas
import Derived.RowKit
import Derived.Test.YtcbfnfggnocndaaZRedoRecords0
import Derived.Test.YtcbfnfggnocndaaZRedoRecords1
import Derived.Test.YtcbfnfggnocndaaZRedoRecords2
import Derived.Test.YtcbfnfggnocndaaZRedoRecords3
import Derived.Test.YtcbfnfggnocndaaZRedoRecords4
import Derived.Test.YtcbfnfggnocndaaZRedoRecords5
import Derived.Test.YtcbfnfggnocndaaZRedoRecords6
import Derived.Test.YtcbfnfggnocndaaZRedoRecords7
import Derived.Test.YtcbfnfggnocndaaZRedoRecords8
import Derived.Test.YtcbfnfggnocndaaZRedoRecords9
import Derived.Test.YtcbfnfggnocndaaZRedoRecords10
import Derived.Test.YtcbfnfggnocndaaZRedoRecords11
import Derived.Test.YtcbfnfggnocndaaZRedoRecords12
import Derived.Test.YtcbfnfggnocndaaZRedoRecords13
import Derived.Test.YtcbfnfggnocndaaZRedoRecords14
import Derived.Test.YtcbfnfggnocndaaZRedoRecords15
import Derived.Test.YtcbfnfggnocndaaZRedoRecords16
import Derived.Test.YtcbfnfggnocndaaZRedoRecords17
import Derived.Test.YtcbfnfggnocndaaZRedoRecords18
import Derived.Test.YtcbfnfggnocndaaZRedoRecords19
import Derived.Test.YtcbfnfggnocndaaZRedoRecords20
import Derived.Test.YtcbfnfggnocndaaZRedoRecords21
import Derived.RangeFuncBox
import Derived.RangeFuncNested
import Derived.RangeFuncLeaves
import Derived.Shelf.Abstract
import Derived.Shelf.AbstractIn
import Derived.OwnWalkIn
import Derived.TacticsInMore
import Derived.LoopNIn
import Derived.LoopIn
import Derived.Lib.Hide
import Derived.Outline
import Derived.Laws.Strings
import Derived.Laws.BitsAllLaws
import Derived.WideShapes
import Derived.Deep.RegionWith
import Derived.Deep.RegionLawGrows
import Derived.IntWalk
import Derived.WalkMore
import Derived.ScopeJumps
import Derived.Deep.DeepMust
import Derived.Shelf.Strings.Builder1
import Derived.Shelf.Strings.Builder2
import Derived.Shelf.Strings.OnBuilder
import Derived.Shelf.Strings.BuilderF
import Derived.Shelf.Strings.BuilderK
import Derived.Shelf.Strings.Builder2Cap
import Derived.Shelf.Strings.Prefix
import Derived.Shelf.Strings.BuilderCap
import Derived.Lib.Join
import Derived.OneCell
import Derived.Laws.EntriesVeiled
import Derived.Deep.WholeRow
import Derived.Laws.CopyOwn
import Derived.Laws.ResultCell
section
/- The machine's side of laws of this seat: Go functions as Lean functions, and the proof that a call of each comes to what its function says (written by a program of this session, px.py, that runs the kit's print). -/
namespace Go.Proofs.Ytcbfnfggnocndaa.Q
open Go.RowKit Go.Proofs.YtcbfnfggnocndaaW.PrintWords Go.Proofs.YtcbfnfggnocndaaW.PrintLast Go.Proofs.YtcbfnfggnocndaaW.PrintMore
attribute [local go_sem] max2_int min2_int max_two min_two max_three min_three max_four min_four   -- for this text's walks alone
attribute [local go_sem high] Go.Proofs.Ytcbfnfggnocndaa.px_xor_u8 Go.Proofs.Ytcbfnfggnocndaa.px_xor_u16 Go.Proofs.Ytcbfnfggnocndaa.px_xor_u32 Go.Proofs.Ytcbfnfggnocndaa.px_xor_u64
set_option linter.unusedVariables false
set_option linter.unusedSimpArgs false



def errW : Option Int → Value
  | none => .nilIface
  | some c => .iface 0 (.int .i64 c)
theorem errW_none : errW none = .nilIface := rfl
theorem errW_some (c : Int) : errW (some c) = .iface 0 (.int .i64 c) := rfl

theorem info5 : (Try.prog.info? 5).map (fun i => (i.zero, i.size, i.bytes)) = some (some (.int .u8 0), 1, 1) := by kernel_rfl
theorem info9 : (Try.prog.info? 9).map (fun i => (i.zero, i.size, i.bytes)) = some (some (.string ⟨#[]⟩), 1, 16) := by kernel_rfl
-- the values' own types
/-! #### struct type 88 -/
structure S88 where
  f0 : Int
  f1 : ByteArray
def z88 : S88 := ⟨(0 : Int), (⟨#[]⟩ : ByteArray)⟩
def k88 : Kd S88 := Kd.iso (Kd.pair (Kd.int .i64) Kd.string) (fun x : S88 => (x.f0, x.f1))
theorem k88_open {w : World} {x : S88} {cs : List Value} (h : k88.K w x cs) : cs = [.int .i64 x.f0, .string x.f1] := by
  obtain ⟨_, _, rfl, rfl, rfl⟩ := h
  exact rfl
theorem k88_mkM (w : World) (base : Nat) (ok : Nat → Prop) (x : S88)  : k88.M w base ok x [.int .i64 x.f0, .string x.f1] := ⟨[.int .i64 x.f0], [.string x.f1], rfl, rfl, rfl⟩
def rd_T88 (xs : List S88) (i : Int) : S88 := xs.getD i.toNat z88
theorem at_T88 {w : World} {A : Option Addr} {n : Nat} {xs : List S88} (h : Kd.C k88 w A n xs) (i : Int) (h0 : 0 ≤ i) (h1 : i < n) : ∃ ad , A = some ad ∧ w.cell? (ad.add (i.toNat * 2)) = some (.int .i64 (rd_T88 xs i).f0) ∧ w.cell? ⟨(ad.add (i.toNat * 2)).block, (ad.add (i.toNat * 2)).off + 1, none⟩ = some (.string (rd_T88 xs i).f1) := by
  obtain ⟨ad, c, e, _, hK, hc0⟩ := Kd.C_get h z88 i h0 h1
  have hc : ∀ j u, c[j]? = some u → w.cell? (ad.add (i.toNat * 2 + j)) = some u := hc0
  obtain rfl := k88_open hK
  exact ⟨ad, e, hc 0 _ rfl, by rw [← add_field _ _ 1 (by omega)]; exact hc 1 _ rfl⟩

end Go.Proofs.Ytcbfnfggnocndaa.Q
end

section
/- The machine's side of laws of this seat: Go functions as Lean functions, and the proof that a call of each comes to what its function says (written by a program of this session, px.py, that runs the kit's print). -/
namespace Go.Proofs.Ytcbfnfggnocndaa.T
open Go.RowKit Go.Proofs.YtcbfnfggnocndaaW.PrintWords Go.Proofs.YtcbfnfggnocndaaW.PrintLast Go.Proofs.YtcbfnfggnocndaaW.PrintMore
attribute [local go_sem] max2_int min2_int max_two min_two max_three min_three max_four min_four   -- for this text's walks alone
attribute [local go_sem high] Go.Proofs.Ytcbfnfggnocndaa.px_xor_u8 Go.Proofs.Ytcbfnfggnocndaa.px_xor_u16 Go.Proofs.Ytcbfnfggnocndaa.px_xor_u32 Go.Proofs.Ytcbfnfggnocndaa.px_xor_u64
set_option linter.unusedVariables false
set_option linter.unusedSimpArgs false



def errW : Option Int → Value
  | none => .nilIface
  | some c => .iface 0 (.int .i64 c)
theorem errW_none : errW none = .nilIface := rfl
theorem errW_some (c : Int) : errW (some c) = .iface 0 (.int .i64 c) := rfl

theorem info5 : (Try.prog.info? 5).map (fun i => (i.zero, i.size, i.bytes)) = some (some (.int .u8 0), 1, 1) := by kernel_rfl
-- the values' own types

end Go.Proofs.Ytcbfnfggnocndaa.T
end

section
/- The machine's side of laws of this seat: Go functions as Lean functions, and the proof that a call of each comes to what its function says (written by a program of this session, px.py, that runs the kit's print). -/
namespace Go.Proofs.Ytcbfnfggnocndaa.T
open Go.RowKit Go.Proofs.YtcbfnfggnocndaaW.PrintWords Go.Proofs.YtcbfnfggnocndaaW.PrintLast Go.Proofs.YtcbfnfggnocndaaW.PrintMore
attribute [local go_sem] max2_int min2_int max_two min_two max_three min_three max_four min_four   -- for this text's walks alone
attribute [local go_sem high] Go.Proofs.Ytcbfnfggnocndaa.px_xor_u8 Go.Proofs.Ytcbfnfggnocndaa.px_xor_u16 Go.Proofs.Ytcbfnfggnocndaa.px_xor_u32 Go.Proofs.Ytcbfnfggnocndaa.px_xor_u64
set_option linter.unusedVariables false
set_option linter.unusedSimpArgs false

/-! ### octet_TakeNum: function 76 -/
mutual
def octet_TakeNum.l0 : Nat → ByteArray → Int → Int → Option (Int × ByteArray × Int)
 | 0, _, _, _ => none
 | k + 1, x0, x5, x6 => if x6 < (x0.size : Int) then (octet_TakeNum.j1 k x0 x5 x6 (decide (x6 < 10))) else (octet_TakeNum.j1 k x0 x5 x6 false)
def octet_TakeNum.j1 : Nat → ByteArray → Int → Int → Bool → Option (Int × ByteArray × Int)
 | 0, _, _, _, _ => none
 | k + 1, x0, x5, x6, x15 => if x15 = true then (if 0 ≤ x6 then (if x6 < (x0.size : Int) then (if 0 ≤ (wrap64 (7 * x6)) then (if (bt x0 x6) < 128 then (if (wrap64 (x6 + 1)) > 1 then (if (bt x0 x6) = 0 then (some (0, (⟨#[]⟩ : ByteArray), 3)) else (if (wrap64 (x6 + 1)) = 10 then (if (bt x0 x6) > 1 then (some (0, (⟨#[]⟩ : ByteArray), 3)) else (if 0 ≤ (wrap64 (x6 + 1)) then (if (wrap64 (x6 + 1)) ≤ (x0.size : Int) then (some (Go.bits .or .u64 x5 (shl .u64 (IntKind.u64.wrap (Go.bits .and .u8 (bt x0 x6) 127)) (wrap64 (7 * x6))), x0.extract ((wrap64 (x6 + 1)) : Int).toNat x0.size, 0)) else (none)) else (none))) else (if 0 ≤ (wrap64 (x6 + 1)) then (if (wrap64 (x6 + 1)) ≤ (x0.size : Int) then (some (Go.bits .or .u64 x5 (shl .u64 (IntKind.u64.wrap (Go.bits .and .u8 (bt x0 x6) 127)) (wrap64 (7 * x6))), x0.extract ((wrap64 (x6 + 1)) : Int).toNat x0.size, 0)) else (none)) else (none)))) else (if (wrap64 (x6 + 1)) = 10 then (if (bt x0 x6) > 1 then (some (0, (⟨#[]⟩ : ByteArray), 3)) else (if 0 ≤ (wrap64 (x6 + 1)) then (if (wrap64 (x6 + 1)) ≤ (x0.size : Int) then (some (Go.bits .or .u64 x5 (shl .u64 (IntKind.u64.wrap (Go.bits .and .u8 (bt x0 x6) 127)) (wrap64 (7 * x6))), x0.extract ((wrap64 (x6 + 1)) : Int).toNat x0.size, 0)) else (none)) else (none))) else (if 0 ≤ (wrap64 (x6 + 1)) then (if (wrap64 (x6 + 1)) ≤ (x0.size : Int) then (some (Go.bits .or .u64 x5 (shl .u64 (IntKind.u64.wrap (Go.bits .and .u8 (bt x0 x6) 127)) (wrap64 (7 * x6))), x0.extract ((wrap64 (x6 + 1)) : Int).toNat x0.size, 0)) else (none)) else (none)))) else (octet_TakeNum.l0 k x0 (Go.bits .or .u64 x5 (shl .u64 (IntKind.u64.wrap (Go.bits .and .u8 (bt x0 x6) 127)) (wrap64 (7 * x6)))) (wrap64 (x6 + 1)))) else (none)) else (none)) else (none)) else (if x6 = 10 then (some (0, (⟨#[]⟩ : ByteArray), 3)) else (some (0, (⟨#[]⟩ : ByteArray), 2)))
end
def octet_TakeNum.f (k : Nat) (a0 : ByteArray) : Option (Int × ByteArray × Int) := octet_TakeNum.l0 k a0 0 0
theorem octet_TakeNum.mono_l : ∀ k, (∀ y0 y1 y2, LeO (octet_TakeNum.l0 k y0 y1 y2) (octet_TakeNum.l0 (k + 1) y0 y1 y2)) ∧ (∀ y0 y1 y2 y3, LeO (octet_TakeNum.j1 k y0 y1 y2 y3) (octet_TakeNum.j1 (k + 1) y0 y1 y2 y3))
 | 0 => ⟨fun _ _ _ r h => by simp [octet_TakeNum.l0] at h, fun _ _ _ _ r h => by simp [octet_TakeNum.j1] at h⟩
 | k + 1 => by
  obtain ⟨ih0, ih1⟩ := octet_TakeNum.mono_l k
  refine ⟨?_, ?_⟩
  ·intro y0 y1 y2
   unfold octet_TakeNum.l0
   repeat' first
   | (with_reducible exact ih0 _ _ _)
   | (with_reducible exact ih1 _ _ _ _)
   | (with_reducible exact LeO.refl _)
   | (with_reducible exact LeO.none _)
   | (with_reducible refine LeO.ite ?_ ?_)
   | (with_reducible refine LeO.bind ?_ (fun _ => ?_))
   | exact ih0 _ _ _
   | exact ih1 _ _ _ _
   | exact LeO.none _
   | refine LeO.ite ?_ ?_
   | refine LeO.bind ?_ (fun _ => ?_)
  ·intro y0 y1 y2 y3
   unfold octet_TakeNum.j1
   repeat' first
   | (with_reducible exact ih0 _ _ _)
   | (with_reducible exact ih1 _ _ _ _)
   | (with_reducible exact LeO.refl _)
   | (with_reducible exact LeO.none _)
   | (with_reducible refine LeO.ite ?_ ?_)
   | (with_reducible refine LeO.bind ?_ (fun _ => ?_))
   | exact ih0 _ _ _
   | exact ih1 _ _ _ _
   | exact LeO.none _
   | refine LeO.ite ?_ ?_
   | refine LeO.bind ?_ (fun _ => ?_)
theorem octet_TakeNum.mono : ∀ a0 k, LeO (octet_TakeNum.f k a0) (octet_TakeNum.f (k + 1) a0) := by
 intro a0 k
 obtain ⟨ih0, ih1⟩ := octet_TakeNum.mono_l k
 unfold octet_TakeNum.f
 repeat' first
   | (with_reducible exact ih0 _ _ _)
   | (with_reducible exact ih1 _ _ _ _)
   | (with_reducible exact LeO.refl _)
   | (with_reducible exact LeO.none _)
   | (with_reducible refine LeO.ite ?_ ?_)
   | (with_reducible refine LeO.bind ?_ (fun _ => ?_))
   | exact ih0 _ _ _
   | exact ih1 _ _ _ _
   | exact LeO.none _
   | refine LeO.ite ?_ ?_
   | refine LeO.bind ?_ (fun _ => ?_)
set_option maxHeartbeats 8000000 in
set_option maxRecDepth 100000 in
theorem octet_TakeNum.calls (k : Nat) (a0 : ByteArray) (r1 : Int) (r2 : ByteArray) (r3 : Int) (w : World) (h : octet_TakeNum.f k a0 = some (r1, r2, r3)) :
  Calls Try.prog 76 #[.string a0] w fun e w' => e = .returned (.tuple #[.int .u64 r1, .string r2, .int .i64 r3]) ∧ Drawn0 w w' := by
 have H : (octet_TakeNum.l0 k a0 0 0) = some (r1, r2, r3) := h
 clear h
 have H' := Aside0.mk H
 clear H
 go_enter Try.func76, Try.ntmps76
 go_wp2
 repeat (go_quiet (fail); try go_wp2)
 go_loopg [5, 6] k (fun kq v5 v6 w' => ∃ (x5_1 : Int) (x6_1 : Int), v5 = .int .u64 x5_1 ∧ v6 = .int .i64 x6_1 ∧ Aside0 (octet_TakeNum.l0 kq a0 x5_1 x6_1 = some (r1, r2, r3)) ∧ Aside0 (kq ≤ k) ∧ Drawn0 w w')
 case atStart => exact ⟨(0), (0), (by first | rfl | (simp; done) | (simp [*]; done)), (by first | rfl | (simp; done) | (simp [*]; done)), H', ⟨Nat.le_refl _⟩, by repeat (first | exact Drawn0.refl _ | apply Drawn0.step)⟩
 case round =>
  clear H'
  obtain ⟨x5_1, x6_1, rfl, rfl, HA, HK1, ⟨m1, rfl⟩⟩ := hrel
  cases gk with
  | zero => exact absurd HA.out (by simp [octet_TakeNum.l0])
  | succ k1 =>
   (have H := HA.out; clear HA)
   simp only [octet_TakeNum.l0] at H
   have HC2 := Aside0.mk H
   clear H
   go_upto_region 3 with (fail)
   repeat (go_quiet (fail); go_upto_region 3 with (fail))
   go_cut [15] (fun v15 wc => ∃ (kq : Nat) (x15_1 : Bool), v15 = .bool x15_1 ∧ Aside0 (octet_TakeNum.j1 kq a0 x5_1 x6_1 x15_1 = some (r1, r2, r3)) ∧ Aside0 (kq ≤ k1) ∧ Drawn0 w wc)
   case first =>
    (have H := HC2.out; clear HC2)
    by_cases c3 : x6_1 < (a0.size : Int)
    ·rw [if_pos c3] at H
     have c3b0 : decide (x6_1 < (a0.size : Int)) = true := decide_eq_true c3
     clear c3
     (first | rw [c3b0] | (simp only [i64_w, i32_w]; rw [c3b0]) | skip)
     have H' := Aside0.mk H
     clear H
     go_wp2
     repeat (go_quiet (fail); try go_wp2)
     go_meet
     case rel => exact ⟨_, (decide (x6_1 < 10)), (by first | rfl | (simp; done) | (simp [*]; done)), H', ⟨by have := HK1.out; first | omega | exact Nat.le_refl _⟩, by repeat (first | exact Drawn0.refl _ | apply Drawn0.step)⟩
    ·rw [if_neg c3] at H
     have c3b0 : decide (x6_1 < (a0.size : Int)) = false := decide_eq_false c3
     clear c3
     (first | rw [c3b0] | (simp only [i64_w, i32_w]; rw [c3b0]) | skip)
     have H' := Aside0.mk H
     clear H
     go_wp2
     repeat (go_quiet (fail); try go_wp2)
     go_meet
     case rel => exact ⟨_, (false), (by first | rfl | (simp; done) | (simp [*]; done)), H', ⟨by have := HK1.out; first | omega | exact Nat.le_refl _⟩, by repeat (first | exact Drawn0.refl _ | apply Drawn0.step)⟩
   case rest =>
    (clear HC2; (try clear p2); (try clear c3); (try clear c3b0))
    obtain ⟨kq, x15_1, rfl, HA, HJ1, ⟨mc1, rfl⟩⟩ := hcut
    cases kq with
    | zero => exact absurd HA.out (by simp [octet_TakeNum.j1])
    | succ kj1 =>
     (have H := HA.out; clear HA)
     simp only [octet_TakeNum.j1] at H
     by_cases c4 : x15_1 = true
     ·subst c4
      have H1 : (if 0 ≤ x6_1 then (if x6_1 < (a0.size : Int) then (if 0 ≤ (wrap64 (7 * x6_1)) then (if (bt a0 x6_1) < 128 then (if (wrap64 (x6_1 + 1)) > 1 then (if (bt a0 x6_1) = 0 then (some (0, (⟨#[]⟩ : ByteArray), 3)) else (if (wrap64 (x6_1 + 1)) = 10 then (if (bt a0 x6_1) > 1 then (some (0, (⟨#[]⟩ : ByteArray), 3)) else (if 0 ≤ (wrap64 (x6_1 + 1)) then (if (wrap64 (x6_1 + 1)) ≤ (a0.size : Int) then (some (Go.bits .or .u64 x5_1 (shl .u64 (IntKind.u64.wrap (Go.bits .and .u8 (bt a0 x6_1) 127)) (wrap64 (7 * x6_1))), a0.extract ((wrap64 (x6_1 + 1)) : Int).toNat a0.size, 0)) else (none)) else (none))) else (if 0 ≤ (wrap64 (x6_1 + 1)) then (if (wrap64 (x6_1 + 1)) ≤ (a0.size : Int) then (some (Go.bits .or .u64 x5_1 (shl .u64 (IntKind.u64.wrap (Go.bits .and .u8 (bt a0 x6_1) 127)) (wrap64 (7 * x6_1))), a0.extract ((wrap64 (x6_1 + 1)) : Int).toNat a0.size, 0)) else (none)) else (none)))) else (if (wrap64 (x6_1 + 1)) = 10 then (if (bt a0 x6_1) > 1 then (some (0, (⟨#[]⟩ : ByteArray), 3)) else (if 0 ≤ (wrap64 (x6_1 + 1)) then (if (wrap64 (x6_1 + 1)) ≤ (a0.size : Int) then (some (Go.bits .or .u64 x5_1 (shl .u64 (IntKind.u64.wrap (Go.bits .and .u8 (bt a0 x6_1) 127)) (wrap64 (7 * x6_1))), a0.extract ((wrap64 (x6_1 + 1)) : Int).toNat a0.size, 0)) else (none)) else (none))) else (if 0 ≤ (wrap64 (x6_1 + 1)) then (if (wrap64 (x6_1 + 1)) ≤ (a0.size : Int) then (some (Go.bits .or .u64 x5_1 (shl .u64 (IntKind.u64.wrap (Go.bits .and .u8 (bt a0 x6_1) 127)) (wrap64 (7 * x6_1))), a0.extract ((wrap64 (x6_1 + 1)) : Int).toNat a0.size, 0)) else (none)) else (none)))) else (octet_TakeNum.l0 kj1 a0 (Go.bits .or .u64 x5_1 (shl .u64 (IntKind.u64.wrap (Go.bits .and .u8 (bt a0 x6_1) 127)) (wrap64 (7 * x6_1)))) (wrap64 (x6_1 + 1)))) else (none)) else (none)) else (none)) = some (r1, r2, r3) := by rw [if_pos rfl] at H; exact H
      clear H
      have H := H1
      clear H1
      by_cases c5 : 0 ≤ x6_1
      ·rw [if_pos c5] at H
       have c5b0 : decide (0 ≤ x6_1) = true := decide_eq_true c5
       clear c5
       by_cases c6 : x6_1 < (a0.size : Int)
       ·rw [if_pos c6] at H
        have c6b0 : decide (x6_1 < (a0.size : Int)) = true := decide_eq_true c6
        clear c6
        obtain ⟨ji8, hji8⟩ : ∃ j_ : Int, (wrap64 (7 * x6_1)) = j_ := ⟨_, rfl⟩
        replace H : (if 0 ≤ (ji8) then (if (bt a0 x6_1) < 128 then (if (wrap64 (x6_1 + 1)) > 1 then (if (bt a0 x6_1) = 0 then (some (0, (⟨#[]⟩ : ByteArray), 3)) else (if (wrap64 (x6_1 + 1)) = 10 then (if (bt a0 x6_1) > 1 then (some (0, (⟨#[]⟩ : ByteArray), 3)) else (if 0 ≤ (wrap64 (x6_1 + 1)) then (if (wrap64 (x6_1 + 1)) ≤ (a0.size : Int) then (some (Go.bits .or .u64 x5_1 (shl .u64 (IntKind.u64.wrap (Go.bits .and .u8 (bt a0 x6_1) 127)) (ji8)), a0.extract ((wrap64 (x6_1 + 1)) : Int).toNat a0.size, 0)) else (none)) else (none))) else (if 0 ≤ (wrap64 (x6_1 + 1)) then (if (wrap64 (x6_1 + 1)) ≤ (a0.size : Int) then (some (Go.bits .or .u64 x5_1 (shl .u64 (IntKind.u64.wrap (Go.bits .and .u8 (bt a0 x6_1) 127)) (ji8)), a0.extract ((wrap64 (x6_1 + 1)) : Int).toNat a0.size, 0)) else (none)) else (none)))) else (if (wrap64 (x6_1 + 1)) = 10 then (if (bt a0 x6_1) > 1 then (some (0, (⟨#[]⟩ : ByteArray), 3)) else (if 0 ≤ (wrap64 (x6_1 + 1)) then (if (wrap64 (x6_1 + 1)) ≤ (a0.size : Int) then (some (Go.bits .or .u64 x5_1 (shl .u64 (IntKind.u64.wrap (Go.bits .and .u8 (bt a0 x6_1) 127)) (ji8)), a0.extract ((wrap64 (x6_1 + 1)) : Int).toNat a0.size, 0)) else (none)) else (none))) else (if 0 ≤ (wrap64 (x6_1 + 1)) then (if (wrap64 (x6_1 + 1)) ≤ (a0.size : Int) then (some (Go.bits .or .u64 x5_1 (shl .u64 (IntKind.u64.wrap (Go.bits .and .u8 (bt a0 x6_1) 127)) (ji8)), a0.extract ((wrap64 (x6_1 + 1)) : Int).toNat a0.size, 0)) else (none)) else (none)))) else (octet_TakeNum.l0 kj1 a0 (Go.bits .or .u64 x5_1 (shl .u64 (IntKind.u64.wrap (Go.bits .and .u8 (bt a0 x6_1) 127)) (ji8))) (wrap64 (x6_1 + 1)))) else (none)) = some (r1, r2, r3) := by first | (rw [hji8] at H; exact H) | (simp only [hji8] at H ⊢; exact H)
        have hji8w : (IntKind.i64.wrap (7 * x6_1)) = ji8 := (i64_w _).trans hji8
        by_cases c9 : 0 ≤ (ji8)
        ·rw [if_pos c9] at H
         have c9b0 := eq_true c9
         have c9b1 : decide (0 ≤ (ji8)) = true := decide_eq_true c9
         clear c9
         obtain ⟨ji10, hji10⟩ : ∃ j_ : Int, (shl .u64 (IntKind.u64.wrap (Go.bits .and .u8 (bt a0 x6_1) 127)) (ji8)) = j_ := ⟨_, rfl⟩
         replace H : (if (bt a0 x6_1) < 128 then (if (wrap64 (x6_1 + 1)) > 1 then (if (bt a0 x6_1) = 0 then (some (0, (⟨#[]⟩ : ByteArray), 3)) else (if (wrap64 (x6_1 + 1)) = 10 then (if (bt a0 x6_1) > 1 then (some (0, (⟨#[]⟩ : ByteArray), 3)) else (if 0 ≤ (wrap64 (x6_1 + 1)) then (if (wrap64 (x6_1 + 1)) ≤ (a0.size : Int) then (some (Go.bits .or .u64 x5_1 (ji10), a0.extract ((wrap64 (x6_1 + 1)) : Int).toNat a0.size, 0)) else (none)) else (none))) else (if 0 ≤ (wrap64 (x6_1 + 1)) then (if (wrap64 (x6_1 + 1)) ≤ (a0.size : Int) then (some (Go.bits .or .u64 x5_1 (ji10), a0.extract ((wrap64 (x6_1 + 1)) : Int).toNat a0.size, 0)) else (none)) else (none)))) else (if (wrap64 (x6_1 + 1)) = 10 then (if (bt a0 x6_1) > 1 then (some (0, (⟨#[]⟩ : ByteArray), 3)) else (if 0 ≤ (wrap64 (x6_1 + 1)) then (if (wrap64 (x6_1 + 1)) ≤ (a0.size : Int) then (some (Go.bits .or .u64 x5_1 (ji10), a0.extract ((wrap64 (x6_1 + 1)) : Int).toNat a0.size, 0)) else (none)) else (none))) else (if 0 ≤ (wrap64 (x6_1 + 1)) then (if (wrap64 (x6_1 + 1)) ≤ (a0.size : Int) then (some (Go.bits .or .u64 x5_1 (ji10), a0.extract ((wrap64 (x6_1 + 1)) : Int).toNat a0.size, 0)) else (none)) else (none)))) else (octet_TakeNum.l0 kj1 a0 (Go.bits .or .u64 x5_1 (ji10)) (wrap64 (x6_1 + 1)))) = some (r1, r2, r3) := by first | (rw [hji10] at H; exact H) | (simp only [hji10] at H ⊢; exact H)
         have hji10_ : (IntKind.u64.wrap ((IntKind.u64.wrap (Go.bits .and .u8 (bt a0 x6_1) 127)) * 2 ^ min (ji8).toNat 64)) = ji10 := hji10
         have hji10z : (ji8) ≤ 64 → (IntKind.u64.wrap ((IntKind.u64.wrap (Go.bits .and .u8 (bt a0 x6_1) 127)) * 2 ^ (ji8).toNat)) = ji10 := shl_small hji10
         by_cases c11 : (bt a0 x6_1) < 128
         ·rw [if_pos c11] at H
          have c11b0 : decide ((bt a0 x6_1) < 128) = true := decide_eq_true c11
          clear c11
          by_cases c12 : (wrap64 (x6_1 + 1)) > 1
          ·rw [if_pos c12] at H
           have c12b0 : decide (1 < (wrap64 (x6_1 + 1))) = true := decide_eq_true c12
           clear c12
           by_cases c13 : (bt a0 x6_1) = 0
           ·rw [if_pos c13] at H
            have c13b0 : ((bt a0 x6_1) == 0) = true := beq_iff_eq.mpr c13
            have c13b1 : ((bt a0 x6_1) != 0) = false := bne_eq_false_iff_eq.mpr c13
            clear c13
            simp only [Option.some.injEq, Prod.mk.injEq] at H
            obtain ⟨rfl, rfl, rfl⟩ := H
            have p7 : 0 ≤ (x6_1 : Int) := of_decide_eq_true (by first | (with_reducible assumption) | assumption)
            have q7 : x6_1 < (a0.size : Int) := of_decide_eq_true (by first | (with_reducible assumption) | assumption)
            have hx7 := bt_at a0 x6_1
            replace p7 := eq_true p7
            replace q7 := eq_true q7
            go_wp2
            repeat (go_quiet (fail); try go_wp2)
            go_ret3
            exact ⟨by first | rfl | (simp; done) | (simp only [← hji8, ← hji10] <;> (first | rfl | simp)) | (simp [*]; done), by repeat (first | exact Drawn0.refl _ | apply Drawn0.step)⟩
           ·rw [if_neg c13] at H
            have c13b0 : ((bt a0 x6_1) == 0) = false := beq_eq_false_iff_ne.mpr c13
            have c13b1 : ((bt a0 x6_1) != 0) = true := bne_iff_ne.mpr c13
            by_cases c14 : (wrap64 (x6_1 + 1)) = 10
            ·rw [if_pos c14] at H
             have c14b0 : ((wrap64 (x6_1 + 1)) == 10) = true := beq_iff_eq.mpr c14
             have c14b1 : ((wrap64 (x6_1 + 1)) != 10) = false := bne_eq_false_iff_eq.mpr c14
             clear c14
             by_cases c15 : (bt a0 x6_1) > 1
             ·rw [if_pos c15] at H
              have c15b0 : decide (1 < (bt a0 x6_1)) = true := decide_eq_true c15
              clear c15
              simp only [Option.some.injEq, Prod.mk.injEq] at H
              obtain ⟨rfl, rfl, rfl⟩ := H
              have p7 : 0 ≤ (x6_1 : Int) := of_decide_eq_true (by first | (with_reducible assumption) | assumption)
              have q7 : x6_1 < (a0.size : Int) := of_decide_eq_true (by first | (with_reducible assumption) | assumption)
              have hx7 := bt_at a0 x6_1
              replace p7 := eq_true p7
              replace q7 := eq_true q7
              go_wp2
              repeat (go_quiet (fail); try go_wp2)
              go_ret3
              exact ⟨by first | rfl | (simp; done) | (simp only [← hji8, ← hji10] <;> (first | rfl | simp)) | (simp [*]; done), by repeat (first | exact Drawn0.refl _ | apply Drawn0.step)⟩
             ·rw [if_neg c15] at H
              have c15b0 : decide (1 < (bt a0 x6_1)) = false := decide_eq_false c15
              clear c15
              obtain ⟨ji16, hji16⟩ : ∃ j_ : Int, (wrap64 (x6_1 + 1)) = j_ := ⟨_, rfl⟩
              replace H : (if 0 ≤ (ji16) then (if (ji16) ≤ (a0.size : Int) then (some (Go.bits .or .u64 x5_1 (ji10), a0.extract ((ji16) : Int).toNat a0.size, 0)) else (none)) else (none)) = some (r1, r2, r3) := by first | (rw [hji16] at H; exact H) | (simp only [hji16] at H ⊢; exact H)
              (try rw [hji16] at c12b0)
              (try rw [hji16] at c14b0)
              (try rw [hji16] at c14b1)
              have hji16w : (IntKind.i64.wrap (x6_1 + 1)) = ji16 := (i64_w _).trans hji16
              by_cases c17 : 0 ≤ (ji16)
              ·rw [if_pos c17] at H
               have c17b0 := eq_true c17
               have c17b1 : decide (0 ≤ (ji16)) = true := decide_eq_true c17
               clear c17
               by_cases c18 : (ji16) ≤ (a0.size : Int)
               ·rw [if_pos c18] at H
                have c18b0 := eq_true c18
                have c18b1 : decide ((ji16) ≤ (a0.size : Int)) = true := decide_eq_true c18
                clear c18
                simp only [Option.some.injEq, Prod.mk.injEq] at H
                obtain ⟨rfl, rfl, rfl⟩ := H
                have p7 : 0 ≤ (x6_1 : Int) := of_decide_eq_true (by first | (with_reducible assumption) | assumption)
                have q7 : x6_1 < (a0.size : Int) := of_decide_eq_true (by first | (with_reducible assumption) | assumption)
                have hx7 := bt_at a0 x6_1
                replace p7 := eq_true p7
                replace q7 := eq_true q7
                go_wp2
                repeat (go_quiet (fail); try go_wp2)
                go_ret3
                exact ⟨by first | rfl | (simp; done) | (simp only [← hji8, ← hji10, ← hji16] <;> (first | rfl | simp)) | (simp [*]; done), by repeat (first | exact Drawn0.refl _ | apply Drawn0.step)⟩
               ·rw [if_neg c18] at H
                exact absurd H (by simp)
              ·rw [if_neg c17] at H
               exact absurd H (by simp)
            ·rw [if_neg c14] at H
             have c14b0 : ((wrap64 (x6_1 + 1)) == 10) = false := beq_eq_false_iff_ne.mpr c14
             have c14b1 : ((wrap64 (x6_1 + 1)) != 10) = true := bne_iff_ne.mpr c14
             obtain ⟨ji19, hji19⟩ : ∃ j_ : Int, (wrap64 (x6_1 + 1)) = j_ := ⟨_, rfl⟩
             replace H : (if 0 ≤ (ji19) then (if (ji19) ≤ (a0.size : Int) then (some (Go.bits .or .u64 x5_1 (ji10), a0.extract ((ji19) : Int).toNat a0.size, 0)) else (none)) else (none)) = some (r1, r2, r3) := by first | (rw [hji19] at H; exact H) | (simp only [hji19] at H ⊢; exact H)
             (try rw [hji19] at c12b0)
             (try rw [hji19] at c14b0)
             (try rw [hji19] at c14b1)
             have hji19w : (IntKind.i64.wrap (x6_1 + 1)) = ji19 := (i64_w _).trans hji19
             by_cases c20 : 0 ≤ (ji19)
             ·rw [if_pos c20] at H
              have c20b0 := eq_true c20
              have c20b1 : decide (0 ≤ (ji19)) = true := decide_eq_true c20
              clear c20
              by_cases c21 : (ji19) ≤ (a0.size : Int)
              ·rw [if_pos c21] at H
               have c21b0 := eq_true c21
               have c21b1 : decide ((ji19) ≤ (a0.size : Int)) = true := decide_eq_true c21
               clear c21
               simp only [Option.some.injEq, Prod.mk.injEq] at H
               obtain ⟨rfl, rfl, rfl⟩ := H
               have p7 : 0 ≤ (x6_1 : Int) := of_decide_eq_true (by first | (with_reducible assumption) | assumption)
               have q7 : x6_1 < (a0.size : Int) := of_decide_eq_true (by first | (with_reducible assumption) | assumption)
               have hx7 := bt_at a0 x6_1
               replace p7 := eq_true p7
               replace q7 := eq_true q7
               go_wp2
               repeat (go_quiet (fail); try go_wp2)
               go_ret3
               exact ⟨by first | rfl | (simp; done) | (simp only [← hji8, ← hji10, ← hji19] <;> (first | rfl | simp)) | (simp [*]; done), by repeat (first | exact Drawn0.refl _ | apply Drawn0.step)⟩
              ·rw [if_neg c21] at H
               exact absurd H (by simp)
             ·rw [if_neg c20] at H
              exact absurd H (by simp)
          ·rw [if_neg c12] at H
           have c12b0 : decide (1 < (wrap64 (x6_1 + 1))) = false := decide_eq_false c12
           clear c12
           by_cases c22 : (wrap64 (x6_1 + 1)) = 10
           ·rw [if_pos c22] at H
            have c22b0 : ((wrap64 (x6_1 + 1)) == 10) = true := beq_iff_eq.mpr c22
            have c22b1 : ((wrap64 (x6_1 + 1)) != 10) = false := bne_eq_false_iff_eq.mpr c22
            clear c22
            by_cases c23 : (bt a0 x6_1) > 1
            ·rw [if_pos c23] at H
             have c23b0 : decide (1 < (bt a0 x6_1)) = true := decide_eq_true c23
             clear c23
             simp only [Option.some.injEq, Prod.mk.injEq] at H
             obtain ⟨rfl, rfl, rfl⟩ := H
             have p7 : 0 ≤ (x6_1 : Int) := of_decide_eq_true (by first | (with_reducible assumption) | assumption)
             have q7 : x6_1 < (a0.size : Int) := of_decide_eq_true (by first | (with_reducible assumption) | assumption)
             have hx7 := bt_at a0 x6_1
             replace p7 := eq_true p7
             replace q7 := eq_true q7
             go_wp2
             repeat (go_quiet (fail); try go_wp2)
             go_ret3
             exact ⟨by first | rfl | (simp; done) | (simp only [← hji8, ← hji10] <;> (first | rfl | simp)) | (simp [*]; done), by repeat (first | exact Drawn0.refl _ | apply Drawn0.step)⟩
            ·rw [if_neg c23] at H
             have c23b0 : decide (1 < (bt a0 x6_1)) = false := decide_eq_false c23
             clear c23
             obtain ⟨ji24, hji24⟩ : ∃ j_ : Int, (wrap64 (x6_1 + 1)) = j_ := ⟨_, rfl⟩
             replace H : (if 0 ≤ (ji24) then (if (ji24) ≤ (a0.size : Int) then (some (Go.bits .or .u64 x5_1 (ji10), a0.extract ((ji24) : Int).toNat a0.size, 0)) else (none)) else (none)) = some (r1, r2, r3) := by first | (rw [hji24] at H; exact H) | (simp only [hji24] at H ⊢; exact H)
             (try rw [hji24] at c12b0)
             (try rw [hji24] at c22b0)
             (try rw [hji24] at c22b1)
             have hji24w : (IntKind.i64.wrap (x6_1 + 1)) = ji24 := (i64_w _).trans hji24
             by_cases c25 : 0 ≤ (ji24)
             ·rw [if_pos c25] at H
              have c25b0 := eq_true c25
              have c25b1 : decide (0 ≤ (ji24)) = true := decide_eq_true c25
              clear c25
              by_cases c26 : (ji24) ≤ (a0.size : Int)
              ·rw [if_pos c26] at H
               have c26b0 := eq_true c26
               have c26b1 : decide ((ji24) ≤ (a0.size : Int)) = true := decide_eq_true c26
               clear c26
               simp only [Option.some.injEq, Prod.mk.injEq] at H
               obtain ⟨rfl, rfl, rfl⟩ := H
               have p7 : 0 ≤ (x6_1 : Int) := of_decide_eq_true (by first | (with_reducible assumption) | assumption)
               have q7 : x6_1 < (a0.size : Int) := of_decide_eq_true (by first | (with_reducible assumption) | assumption)
               have hx7 := bt_at a0 x6_1
               replace p7 := eq_true p7
               replace q7 := eq_true q7
               go_wp2
               repeat (go_quiet (fail); try go_wp2)
               go_ret3
               exact ⟨by first | rfl | (simp; done) | (simp only [← hji8, ← hji10, ← hji24] <;> (first | rfl | simp)) | (simp [*]; done), by repeat (first | exact Drawn0.refl _ | apply Drawn0.step)⟩
              ·rw [if_neg c26] at H
               exact absurd H (by simp)
             ·rw [if_neg c25] at H
              exact absurd H (by simp)
           ·rw [if_neg c22] at H
            have c22b0 : ((wrap64 (x6_1 + 1)) == 10) = false := beq_eq_false_iff_ne.mpr c22
            have c22b1 : ((wrap64 (x6_1 + 1)) != 10) = true := bne_iff_ne.mpr c22
            obtain ⟨ji27, hji27⟩ : ∃ j_ : Int, (wrap64 (x6_1 + 1)) = j_ := ⟨_, rfl⟩
            replace H : (if 0 ≤ (ji27) then (if (ji27) ≤ (a0.size : Int) then (some (Go.bits .or .u64 x5_1 (ji10), a0.extract ((ji27) : Int).toNat a0.size, 0)) else (none)) else (none)) = some (r1, r2, r3) := by first | (rw [hji27] at H; exact H) | (simp only [hji27] at H ⊢; exact H)
            (try rw [hji27] at c12b0)
            (try rw [hji27] at c22b0)
            (try rw [hji27] at c22b1)
            have hji27w : (IntKind.i64.wrap (x6_1 + 1)) = ji27 := (i64_w _).trans hji27
            by_cases c28 : 0 ≤ (ji27)
            ·rw [if_pos c28] at H
             have c28b0 := eq_true c28
             have c28b1 : decide (0 ≤ (ji27)) = true := decide_eq_true c28
             clear c28
             by_cases c29 : (ji27) ≤ (a0.size : Int)
             ·rw [if_pos c29] at H
              have c29b0 := eq_true c29
              have c29b1 : decide ((ji27) ≤ (a0.size : Int)) = true := decide_eq_true c29
              clear c29
              simp only [Option.some.injEq, Prod.mk.injEq] at H
              obtain ⟨rfl, rfl, rfl⟩ := H
              have p7 : 0 ≤ (x6_1 : Int) := of_decide_eq_true (by first | (with_reducible assumption) | assumption)
              have q7 : x6_1 < (a0.size : Int) := of_decide_eq_true (by first | (with_reducible assumption) | assumption)
              have hx7 := bt_at a0 x6_1
              replace p7 := eq_true p7
              replace q7 := eq_true q7
              go_wp2
              repeat (go_quiet (fail); try go_wp2)
              go_ret3
              exact ⟨by first | rfl | (simp; done) | (simp only [← hji8, ← hji10, ← hji27] <;> (first | rfl | simp)) | (simp [*]; done), by repeat (first | exact Drawn0.refl _ | apply Drawn0.step)⟩
             ·rw [if_neg c29] at H
              exact absurd H (by simp)
            ·rw [if_neg c28] at H
             exact absurd H (by simp)
         ·rw [if_neg c11] at H
          have c11b0 : decide ((bt a0 x6_1) < 128) = false := decide_eq_false c11
          clear c11
          have H' := Aside0.mk H
          clear H
          have p7 : 0 ≤ (x6_1 : Int) := of_decide_eq_true (by first | (with_reducible assumption) | assumption)
          have q7 : x6_1 < (a0.size : Int) := of_decide_eq_true (by first | (with_reducible assumption) | assumption)
          have hx7 := bt_at a0 x6_1
          replace p7 := eq_true p7
          replace q7 := eq_true q7
          go_wp2
          repeat (go_quiet (fail); try go_wp2)
          go_roundg kj1
          case measure => have := HK1.out; have := HJ1.out; omega
          case rel => exact ⟨(Go.bits .or .u64 x5_1 (ji10)), (wrap64 (x6_1 + 1)), (by first | rfl | (simp; done) | (simp only [← hji10] <;> (first | rfl | simp)) | (simp [*]; done)), (by first | rfl | (simp; done) | (simp [*]; done)), H', ⟨by have := HK1.out; have := HJ1.out; omega⟩, by repeat (first | exact Drawn0.refl _ | apply Drawn0.step)⟩
        ·rw [if_neg c9] at H
         exact absurd H (by simp)
       ·rw [if_neg c6] at H
        exact absurd H (by simp)
      ·rw [if_neg c5] at H
       exact absurd H (by simp)
     ·replace c4 := Bool.eq_false_iff.mpr c4
      subst c4
      have H1 : (if x6_1 = 10 then (some (0, (⟨#[]⟩ : ByteArray), 3)) else (some (0, (⟨#[]⟩ : ByteArray), 2))) = some (r1, r2, r3) := by rw [if_neg (show ¬ (false = true) by decide)] at H; exact H
      clear H
      have H := H1
      clear H1
      by_cases c30 : x6_1 = 10
      ·rw [if_pos c30] at H
       have c30b0 : (x6_1 == 10) = true := beq_iff_eq.mpr c30
       have c30b1 : (x6_1 != 10) = false := bne_eq_false_iff_eq.mpr c30
       clear c30
       simp only [Option.some.injEq, Prod.mk.injEq] at H
       obtain ⟨rfl, rfl, rfl⟩ := H
       go_wp2
       repeat (go_quiet (fail); try go_wp2)
       go_ret3
       exact ⟨by first | rfl | (simp; done) | (simp [*]; done), by repeat (first | exact Drawn0.refl _ | apply Drawn0.step)⟩
      ·rw [if_neg c30] at H
       have c30b0 : (x6_1 == 10) = false := beq_eq_false_iff_ne.mpr c30
       have c30b1 : (x6_1 != 10) = true := bne_iff_ne.mpr c30
       simp only [Option.some.injEq, Prod.mk.injEq] at H
       obtain ⟨rfl, rfl, rfl⟩ := H
       go_wp2
       repeat (go_quiet (fail); try go_wp2)
       go_ret3
       exact ⟨by first | rfl | (simp; done) | (simp [*]; done), by repeat (first | exact Drawn0.refl _ | apply Drawn0.step)⟩

/-! ### octet_TakeText: function 66 -/
def octet_TakeText.j0 : Nat → Int → ByteArray → Bool → Option (ByteArray × ByteArray × Int)
 | 0, _, _, _ => none
 | k + 1, x7, x8, x20 => if x20 = true then (some ((⟨#[]⟩ : ByteArray), (⟨#[]⟩ : ByteArray), 5)) else (if x7 > (IntKind.u64.wrap ((x8.size : Int))) then (some ((⟨#[]⟩ : ByteArray), (⟨#[]⟩ : ByteArray), 2)) else (if 0 ≤ x7 then (if x7 ≤ (x8.size : Int) then (some (x8.extract 0 (x7 : Int).toNat, x8.extract (x7 : Int).toNat x8.size, 0)) else (none)) else (none)))
def octet_TakeText.f (k : Nat) (a0 : ByteArray) (a1 : Int) : Option (ByteArray × ByteArray × Int) := (octet_TakeNum.f k a0).bind fun bt101 => (if bt101.2.2 = 0 then (if a1 < 0 then (octet_TakeText.j0 k bt101.1 bt101.2.1 true) else (octet_TakeText.j0 k bt101.1 bt101.2.1 (decide (bt101.1 > (IntKind.u64.wrap (a1)))))) else (some ((⟨#[]⟩ : ByteArray), (⟨#[]⟩ : ByteArray), bt101.2.2)))
theorem octet_TakeText.mono_l : ∀ k, (∀ y0 y1 y2, LeO (octet_TakeText.j0 k y0 y1 y2) (octet_TakeText.j0 (k + 1) y0 y1 y2))
 | 0 => fun _ _ _ r h => by simp [octet_TakeText.j0] at h
 | k + 1 => by
  have ih0 := octet_TakeText.mono_l k
  ·intro y0 y1 y2
   unfold octet_TakeText.j0
   repeat' first
   | (with_reducible exact ih0 _ _ _)
   | (with_reducible exact octet_TakeNum.mono _ _)
   | (with_reducible exact LeO.refl _)
   | (with_reducible exact LeO.none _)
   | (with_reducible refine LeO.ite ?_ ?_)
   | (with_reducible refine LeO.bind ?_ (fun _ => ?_))
   | exact ih0 _ _ _
   | exact octet_TakeNum.mono _ _
   | exact LeO.none _
   | refine LeO.ite ?_ ?_
   | refine LeO.bind ?_ (fun _ => ?_)
theorem octet_TakeText.mono : ∀ a0 a1 k, LeO (octet_TakeText.f k a0 a1) (octet_TakeText.f (k + 1) a0 a1) := by
 intro a0 a1 k
 have ih0 := octet_TakeText.mono_l k
 unfold octet_TakeText.f
 repeat' first
   | (with_reducible exact ih0 _ _ _)
   | (with_reducible exact octet_TakeNum.mono _ _)
   | (with_reducible exact LeO.refl _)
   | (with_reducible exact LeO.none _)
   | (with_reducible refine LeO.ite ?_ ?_)
   | (with_reducible refine LeO.bind ?_ (fun _ => ?_))
   | exact ih0 _ _ _
   | exact octet_TakeNum.mono _ _
   | exact LeO.none _
   | refine LeO.ite ?_ ?_
   | refine LeO.bind ?_ (fun _ => ?_)
set_option maxHeartbeats 8000000 in
set_option maxRecDepth 100000 in
theorem octet_TakeText.calls (k : Nat) (a0 : ByteArray) (a1 : Int) (r1 : ByteArray) (r2 : ByteArray) (r3 : Int) (w : World) (h : octet_TakeText.f k a0 a1 = some (r1, r2, r3)) :
  Calls Try.prog 66 #[.string a0, .int .i64 a1] w fun e w' => e = .returned (.tuple #[.string r1, .string r2, .int .i64 r3]) ∧ Drawn0 w w' := by
 have H : ((octet_TakeNum.f k a0).bind fun bt101 => (if bt101.2.2 = 0 then (if a1 < 0 then (octet_TakeText.j0 k bt101.1 bt101.2.1 true) else (octet_TakeText.j0 k bt101.1 bt101.2.1 (decide (bt101.1 > (IntKind.u64.wrap (a1)))))) else (some ((⟨#[]⟩ : ByteArray), (⟨#[]⟩ : ByteArray), bt101.2.2)))) = some (r1, r2, r3) := h
 clear h
 replace H := Option.bind_eq_some_iff.mp H
 obtain ⟨⟨t101, t102, t103⟩, A30, H⟩ := H
 replace H : (if t103 = 0 then (if a1 < 0 then (octet_TakeText.j0 k t101 t102 true) else (octet_TakeText.j0 k t101 t102 (decide (t101 > (IntKind.u64.wrap (a1)))))) else (some ((⟨#[]⟩ : ByteArray), (⟨#[]⟩ : ByteArray), t103))) = some (r1, r2, r3) := H
 have A3 := Aside0.mk A30
 clear A30
 by_cases c4 : t103 = 0
 ·rw [if_pos c4] at H
  have c4b0 : (t103 == 0) = true := beq_iff_eq.mpr c4
  have c4b1 : (t103 != 0) = false := bne_eq_false_iff_eq.mpr c4
  clear c4
  have HC5 := Aside0.mk H
  clear H
  go_enter Try.func66, Try.ntmps66
  go_upto_region 4 with (first | (go_at_call 76; (with_reducible refine (octet_TakeNum.calls k a0 t101 t102 t103 _ A3.out).mono ?_); rintro e w' ⟨rfl, ⟨nd, rfl⟩⟩; (try first | exact ⟨rfl, _, World.drewN_drewN _ _ _⟩ | exact ⟨rfl, _, Eq.trans (World.drewN_drewN _ _ _) (congrArg (World.drewN _) (Nat.add_assoc _ _ _))⟩)))
  repeat (go_quiet (first | (go_at_call 76; (with_reducible refine (octet_TakeNum.calls k a0 t101 t102 t103 _ A3.out).mono ?_); rintro e w' ⟨rfl, ⟨nd, rfl⟩⟩; (try first | exact ⟨rfl, _, World.drewN_drewN _ _ _⟩ | exact ⟨rfl, _, Eq.trans (World.drewN_drewN _ _ _) (congrArg (World.drewN _) (Nat.add_assoc _ _ _))⟩))); go_upto_region 4 with (first | (go_at_call 76; (with_reducible refine (octet_TakeNum.calls k a0 t101 t102 t103 _ A3.out).mono ?_); rintro e w' ⟨rfl, ⟨nd, rfl⟩⟩; (try first | exact ⟨rfl, _, World.drewN_drewN _ _ _⟩ | exact ⟨rfl, _, Eq.trans (World.drewN_drewN _ _ _) (congrArg (World.drewN _) (Nat.add_assoc _ _ _))⟩))))
  (try simp only [Act.put, List.setIfInBounds_toArray, List.set_cons_zero, List.set_cons_succ])
  go_cut [20] (fun v20 wc => ∃ (kq : Nat) (x20_4 : Bool), v20 = .bool x20_4 ∧ Aside0 (octet_TakeText.j0 kq t101 t102 x20_4 = some (r1, r2, r3)) ∧ Aside0 (kq ≤ k) ∧ Drawn0 w wc)
  case first =>
   (have H := HC5.out; clear HC5)
   by_cases c6 : a1 < 0
   ·rw [if_pos c6] at H
    have c6b0 : decide (a1 < 0) = true := decide_eq_true c6
    clear c6
    (first | rw [c6b0] | (simp only [i64_w, i32_w]; rw [c6b0]) | skip)
    have H' := Aside0.mk H
    clear H
    go_wp2
    repeat (go_quiet (fail); try go_wp2)
    go_meet
    case rel => exact ⟨_, (true), (by first | rfl | (simp; done) | (simp [*]; done)), H', ⟨by first | omega | exact Nat.le_refl _⟩, by repeat (first | exact Drawn0.refl _ | apply Drawn0.step)⟩
   ·rw [if_neg c6] at H
    have c6b0 : decide (a1 < 0) = false := decide_eq_false c6
    clear c6
    (first | rw [c6b0] | (simp only [i64_w, i32_w]; rw [c6b0]) | skip)
    have H' := Aside0.mk H
    clear H
    go_wp2
    repeat (go_quiet (fail); try go_wp2)
    go_meet
    case rel => exact ⟨_, (decide (t101 > (IntKind.u64.wrap (a1)))), (by first | rfl | (simp; done) | (simp [*]; done)), H', ⟨by first | omega | exact Nat.le_refl _⟩, by repeat (first | exact Drawn0.refl _ | apply Drawn0.step)⟩
  case rest =>
   (clear HC5; (try clear p2); (try clear c4); (try clear c4b0); (try clear c4b1); (try clear c6); (try clear c6b0))
   obtain ⟨kq, x20_4, rfl, HA, HJ4, ⟨mc4, rfl⟩⟩ := hcut
   cases kq with
   | zero => exact absurd HA.out (by simp [octet_TakeText.j0])
   | succ kj4 =>
    (have H := HA.out; clear HA)
    simp only [octet_TakeText.j0] at H
    by_cases c7 : x20_4 = true
    ·subst c7
     have H1 : (some ((⟨#[]⟩ : ByteArray), (⟨#[]⟩ : ByteArray), 5)) = some (r1, r2, r3) := by rw [if_pos rfl] at H; exact H
     clear H
     have H := H1
     clear H1
     simp only [Option.some.injEq, Prod.mk.injEq] at H
     obtain ⟨rfl, rfl, rfl⟩ := H
     go_wp2
     repeat (go_quiet (fail); try go_wp2)
     go_ret3
     exact ⟨by first | rfl | (simp; done) | (simp [*]; done), by repeat (first | exact Drawn0.refl _ | apply Drawn0.step)⟩
    ·replace c7 := Bool.eq_false_iff.mpr c7
     subst c7
     have H1 : (if t101 > (IntKind.u64.wrap ((t102.size : Int))) then (some ((⟨#[]⟩ : ByteArray), (⟨#[]⟩ : ByteArray), 2)) else (if 0 ≤ t101 then (if t101 ≤ (t102.size : Int) then (some (t102.extract 0 (t101 : Int).toNat, t102.extract (t101 : Int).toNat t102.size, 0)) else (none)) else (none))) = some (r1, r2, r3) := by rw [if_neg (show ¬ (false = true) by decide)] at H; exact H
     clear H
     have H := H1
     clear H1
     by_cases c8 : t101 > (IntKind.u64.wrap ((t102.size : Int)))
     ·rw [if_pos c8] at H
      have c8b0 : decide ((IntKind.u64.wrap ((t102.size : Int))) < t101) = true := decide_eq_true c8
      clear c8
      simp only [Option.some.injEq, Prod.mk.injEq] at H
      obtain ⟨rfl, rfl, rfl⟩ := H
      go_wp2
      repeat (go_quiet (fail); try go_wp2)
      go_ret3
      exact ⟨by first | rfl | (simp; done) | (simp [*]; done), by repeat (first | exact Drawn0.refl _ | apply Drawn0.step)⟩
     ·rw [if_neg c8] at H
      have c8b0 : decide ((IntKind.u64.wrap ((t102.size : Int))) < t101) = false := decide_eq_false c8
      clear c8
      by_cases c9 : 0 ≤ t101
      ·rw [if_pos c9] at H
       have c9b0 := eq_true c9
       have c9b1 : decide (0 ≤ t101) = true := decide_eq_true c9
       clear c9
       by_cases c10 : t101 ≤ (t102.size : Int)
       ·rw [if_pos c10] at H
        have c10b0 := eq_true c10
        have c10b1 : decide (t101 ≤ (t102.size : Int)) = true := decide_eq_true c10
        clear c10
        have c11b0 := eq_true (of_decide_eq_true (by first | (with_reducible assumption) | assumption) : 0 ≤ t101)
        have c12b0 := eq_true (of_decide_eq_true (by first | (with_reducible assumption) | assumption) : t101 ≤ (t102.size : Int))
        simp only [Option.some.injEq, Prod.mk.injEq] at H
        obtain ⟨rfl, rfl, rfl⟩ := H
        go_wp2
        repeat (go_quiet (fail); try go_wp2)
        go_ret3
        exact ⟨by first | rfl | (simp; done) | (simp [*]; done), by repeat (first | exact Drawn0.refl _ | apply Drawn0.step)⟩
       ·rw [if_neg c10] at H
        exact absurd H (by simp)
      ·rw [if_neg c9] at H
       exact absurd H (by simp)
 ·rw [if_neg c4] at H
  have c4b0 : (t103 == 0) = false := beq_eq_false_iff_ne.mpr c4
  have c4b1 : (t103 != 0) = true := bne_iff_ne.mpr c4
  simp only [Option.some.injEq, Prod.mk.injEq] at H
  obtain ⟨rfl, rfl, rfl⟩ := H
  go_enter Try.func66, Try.ntmps66
  go_wp2_with (first | (go_at_call 76; (with_reducible refine (octet_TakeNum.calls k a0 t101 t102 t103 _ A3.out).mono ?_); rintro e w' ⟨rfl, ⟨nd, rfl⟩⟩; (try first | exact ⟨rfl, _, World.drewN_drewN _ _ _⟩ | exact ⟨rfl, _, Eq.trans (World.drewN_drewN _ _ _) (congrArg (World.drewN _) (Nat.add_assoc _ _ _))⟩)))
  repeat (go_quiet (first | (go_at_call 76; (with_reducible refine (octet_TakeNum.calls k a0 t101 t102 t103 _ A3.out).mono ?_); rintro e w' ⟨rfl, ⟨nd, rfl⟩⟩; (try first | exact ⟨rfl, _, World.drewN_drewN _ _ _⟩ | exact ⟨rfl, _, Eq.trans (World.drewN_drewN _ _ _) (congrArg (World.drewN _) (Nat.add_assoc _ _ _))⟩))); try go_wp2_with (first | (go_at_call 76; (with_reducible refine (octet_TakeNum.calls k a0 t101 t102 t103 _ A3.out).mono ?_); rintro e w' ⟨rfl, ⟨nd, rfl⟩⟩; (try first | exact ⟨rfl, _, World.drewN_drewN _ _ _⟩ | exact ⟨rfl, _, Eq.trans (World.drewN_drewN _ _ _) (congrArg (World.drewN _) (Nat.add_assoc _ _ _))⟩))))
  go_ret3
  exact ⟨by first | rfl | (simp; done) | (simp [*]; done), by repeat (first | exact Drawn0.refl _ | apply Drawn0.step)⟩

/-! ### disk_zeros: function 61 -/
def disk_zeros.f (a0 : Int) : Option (ByteArray) := if 0 ≤ a0 then (if (a0 : Int).toNat ≤ 281474976710656 then (some (strOfNums (List.replicate (a0 : Int).toNat 0))) else (none)) else (none)
set_option maxHeartbeats 8000000 in
set_option maxRecDepth 100000 in
theorem disk_zeros.calls (a0 : Int) (r : ByteArray) (w : World) (h : disk_zeros.f a0 = some r) :
  Calls Try.prog 61 #[.int .i64 a0] w fun e w' => e = .returned (.string r) ∧ Below w.heap.size w w' := by
 have HB := Aside0.mk (Below.refl w.heap.size w)
 have H : (if 0 ≤ a0 then (if (a0 : Int).toNat ≤ 281474976710656 then (some (strOfNums (List.replicate (a0 : Int).toNat 0))) else (none)) else (none)) = some r := h
 clear h
 by_cases c2 : 0 ≤ a0
 ·rw [if_pos c2] at H
  have c2b0 := eq_true c2
  have c2b1 : decide (0 ≤ a0) = true := decide_eq_true c2
  clear c2
  by_cases c3 : (a0 : Int).toNat ≤ 281474976710656
  ·rw [if_pos c3] at H
   have c3b0 := eq_true c3
   have c3b1 : decide ((a0 : Int).toNat ≤ 281474976710656) = true := decide_eq_true c3
   clear c3
   obtain ⟨y104, hy104⟩ : ∃ y_ : List Int, y_ = (List.replicate (a0 : Int).toNat 0) := ⟨_, rfl⟩
   replace H : (some (strOfNums y104)) = some r := by first | (rw [hy104]; with_reducible exact H) | (have H2_ := (Option.bind_some _ _).symm.trans H; rw [hy104]; with_reducible exact H2_) | (have H2_ := (Option.bind_some _ _).symm.trans H; with_reducible exact H2_) | with_reducible exact H | (rw [hy104]; exact H) | exact H
   have Ny104 := Aside0.mk hy104
   clear hy104
   obtain rfl := Option.some.inj H
   go_enter Try.func61, Try.ntmps61
   go_wp2_with (first | ((with_reducible refine gate_dst (N := 4) rfl ?_); refine Kd.R_make (Kd.int .u8) _ 5 rfl (N := 4) rfl 71 _ _ rfl a0 rfl rfl Try.underlying71 (.int .u8 0) 1 info5 rfl (by decide) (by omega) 0 (ok := fun _ => True) (okp := fun _ => True) rfl (fun _ hk => hk) trivial (of_decide_eq_true (by first | (with_reducible assumption) | assumption)) (Nat.le_trans (Nat.mul_le_mul_right _ (of_decide_eq_true (by first | (with_reducible assumption) | assumption) : a0.toNat ≤ 281474976710656)) (by omega)) (Below.refl _ _) (Nat.le_refl _) ?_; intro v105 w4 ho5 hb hg_ hnew_; clear hg_ hnew_; (first | rw [← Ny104.out] at ho5 | (simp only [Int.reduceToNat] at ho5; rw [← Ny104.out] at ho5)); have n0_ := Aside0.mk (Kd.R_lower ho5 (below_size (by repeat (first | (with_reducible first | exact HB.out | apply below_alloc | apply pw_below_drewN | apply below_drew1) | exact HB.out)))); have n1_ := Aside0.mk (below_step (by repeat (first | (with_reducible first | exact HB.out | apply below_alloc | apply pw_below_drewN | apply below_drew1) | exact HB.out)) hb); clear HB; have HO106 := n0_; have HB := n1_; clear n0_ n1_; clear hb ho5; have hcv6 := own_string (P := Try.prog) Try.underlying71 Try.underlying5 Try.underlying9 (Kd.own_of_R HO106.out)))
   go_ret
   exact ⟨by first | rfl | (simp [errW_none, errW_some] <;> rfl) | (simp [*, errW_none, errW_some] <;> rfl), by repeat (first | (with_reducible first | exact HB.out | apply below_alloc | apply pw_below_drewN | apply below_drew1) | exact HB.out)⟩
  ·rw [if_neg c3] at H
   exact absurd H (by simp)
 ·rw [if_neg c2] at H
  exact absurd H (by simp)

end Go.Proofs.Ytcbfnfggnocndaa.T
end

section
/- Layer 4, walked: the writes that are done, one by one (a range over a function). -/
set_option linter.unusedVariables false
set_option linter.unusedSimpArgs false
namespace Go.Proofs.Ytcbfnfggnocndaa.Q
open Go.RowKit Go.Shelf Go.Proofs.YtcbfnfggnocndaaW.PrintWords
attribute [local go_sem] Oper.semAt_some

/-- All blocks below a bound lie as they lay, but for one row. -/
def KeepX (B R : Nat) (W W' : World) : Prop := W.heap.size ≤ W'.heap.size ∧ ∀ b, b < B → b ≠ R → W'.heap[b]? = W.heap[b]?
namespace KeepX
theorem refl (B R : Nat) (W : World) : KeepX B R W W := ⟨Nat.le_refl _, fun _ _ _ => rfl⟩
theorem trans {B R : Nat} {X Y Z : World} (h : KeepX B R X Y) (k : KeepX B R Y Z) : KeepX B R X Z := ⟨Nat.le_trans h.1 k.1, fun b hb hr => (k.2 b hb hr).trans (h.2 b hb hr)⟩
theorem alloc {B R : Nat} (W : World) (o : Obj) (hB : B ≤ W.heap.size) : KeepX B R W (W.alloc o) := ⟨by simp, fun b hb _ => Below.heap_alloc W o b (by omega)⟩
theorem drewN {B R : Nat} (W : World) (n : Nat) : KeepX B R W (W.drewN n) := ⟨Nat.le_refl _, fun _ _ _ => rfl⟩
theorem below {B R : Nat} {W W' : World} (h : Below W.heap.size W W') (hB : B ≤ W.heap.size) : KeepX B R W W' := ⟨h.size, fun b hb _ => h.block b (by omega)⟩
theorem set {B R : Nat} (W : World) (j : Nat) (v : Value) : KeepX B R W (W.setCell ⟨R, j, none⟩ v) := ⟨(Below.setCell (Below.refl 0 W) (Nat.zero_le _) v).size, fun b _ hr => Below.heap_setCell W ⟨R, j, none⟩ v b hr⟩
theorem cell {B R : Nat} {W W' : World} (h : KeepX B R W W') {b o : Nat} (hb : b < B) (hr : b ≠ R) : W'.cell? ⟨b, o, none⟩ = W.cell? ⟨b, o, none⟩ := by
  unfold World.cell?; rw [h.2 b hb hr]
end KeepX

theorem pw_grown_drewN (W : World) (q : Nat) : W.grownBy (W.drewN q) none := grown_of_below (pw_below_drewN (Below.refl _ W) q) none
theorem KeepX.put {B R : Nat} (W : World) (l : Nat) (o o' : Obj) (hl : B ≤ l) (ho : W.heap[l]? = some o) : KeepX B R W (W.putObj l o') :=
  ⟨(grownBy_putObj' W l o').size, fun b hb _ => (grownBy_putObj' W l o').block b (by have := (Array.getElem?_eq_some_iff.1 ho).1; omega) (fun e => by cases e; omega)⟩
/-- The first k writes that are done. -/
def chosenL {α : Type} (is : Nat → Bool) (qs : List α) : Nat → List α
  | 0 => []
  | k + 1 => if is k then chosenL is qs k ++ (qs[k]?).toList else chosenL is qs k
theorem chosenL_len {α : Type} (is : Nat → Bool) (qs : List α) (k : Nat) : (chosenL is qs k).length ≤ k := by
  induction k with
  | zero => simp [chosenL]
  | succ k ih =>
    have h1 : ((qs[k]?).toList).length ≤ 1 := by cases qs[k]? <;> simp
    show (if is k then chosenL is qs k ++ (qs[k]?).toList else chosenL is qs k).length ≤ k + 1
    split
    · rw [List.length_append]; omega
    · omega
theorem chosenL_map {α β : Type} (f : α → β) (is : Nat → Bool) (qs : List α) (k : Nat) : chosenL is (qs.map f) k = (chosenL is qs k).map f := by
  induction k with
  | zero => rfl
  | succ k ih =>
    show (if is k then chosenL is (qs.map f) k ++ ((qs.map f)[k]?).toList else chosenL is (qs.map f) k) = (if is k then chosenL is qs k ++ (qs[k]?).toList else chosenL is qs k).map f
    rw [ih]
    split
    · rw [List.map_append, List.getElem?_map]; cases qs[k]? <;> rfl
    · rfl
def putV (x : S88) : Value := .agg #[.int .i64 x.f0, .string x.f1]

set_option maxRecDepth 100000 in
set_option maxHeartbeats 1000000 in
theorem chosen1_in {α : Type} (f : α → S88) (qs : List α) (n : Nat) (hn : 1 ≤ n) (l Bd Bf n1 R : Nat) (g : FuncId) (lb : Array Value) (ps : List S88) (hps : ps = qs.map f) (A1 : Option Addr) (c1 : Nat) (is : Nat → Bool) (w0 : World)
    (hn1 : n1 ≤ w0.heap.size) (eg : ∀ args W, (callFunc g args).run Try.prog W = .ok (.enter g args) W) (hlen : ps.length ≤ 140737488355328)
    (hd : ∀ W, KeepX n1 R w0 W → W.cell? ⟨Bd, 1, none⟩ = some (.slice A1 ps.length c1)) (hf : ∀ W, KeepX n1 R w0 W → W.cell? ⟨Bf, 0, none⟩ = some (.func (.func g) #[] lb))
    (hC : ∀ W, KeepX n1 R w0 W → Kd.C k88 W A1 ps.length ps)
    (hIs : ∀ W, KeepX n1 R w0 W → ∀ k : Nat, k < ps.length → Calls Try.prog g (#[.int .i64 k] ++ lb) W fun e w' => e = .returned (.bool (is k)) ∧ Drawn0 W w')
    (J Jx : List α → World → Prop) (W : World) (hW : KeepX n1 R w0 W) (hJ : AbidesFrom W.heap.size J) (hJx : AbidesFrom W.heap.size Jx)
    (hY : ∀ pre x W, J pre W → pre.length < ps.length → YieldAt Fence.wide (n - 1) Try.prog l #[putV (f x)] W fun e W' =>
      (e = .returned (.bool true) ∧ J (pre ++ [x]) W' ∧ KeepX n1 R W W') ∨ (e = .returned (.bool false) ∧ Jx (pre ++ [x]) W')) (h0 : J [] W) :
    CallsIn Fence.wide n Try.prog 81 #[.func (.yield l) #[] #[], .pointer (some ⟨Bd, 0, none⟩), .pointer (some ⟨Bf, 0, none⟩)] W fun e W' => (∃ v, e = .returned v) ∧
      ((∃ ys, ys = chosenL is qs ps.length ∧ J ys W') ∨ (∃ pre, (∃ k, k ≤ ps.length ∧ pre = chosenL is qs k) ∧ Jx pre W')) := by
  have hd0 := hd W hW
  refine callsIn_of_wp Try.func81 rfl trivial ?_ rfl
  simp only [Try.ntmps81, List.size_toArray, List.length_cons, List.length_nil, Nat.reduceAdd, Nat.reduceSub, Array.replicate_succ, Array.replicate_zero, List.push_toArray, List.append_toArray, List.nil_append, List.cons_append]
  gi_wp2
  gi_loopw [9] (fun i wr => ∃ k : Nat, k ≤ ps.length ∧ i = .int .i64 k ∧ J (chosenL is qs k) wr ∧ KeepX n1 R w0 wr)
    (fun i _ => ps.length - (intOf i).toNat)
  case atStart => exact ⟨0, Nat.zero_le _, rfl, h0, hW⟩
  case round =>
    obtain ⟨k, hk, rfl, hJs, hK⟩ := hrel
    by_cases hlt : k < ps.length
    · have hkz : (k : Int) < (ps.length : Int) := by omega
      obtain ⟨ad, rfl, hc0, hc1⟩ := at_T88 (hC wr hK) k (by omega) (by omega)
      rw [Int.toNat_natCast] at hc0 hc1
      have hkq : k < qs.length := by rw [hps, List.length_map] at hlt; exact hlt
      have hrd : rd_T88 ps k = f qs[k] := by
        show ps.getD k _ = _
        rw [hps, List.getD_eq_getElem?_getD, List.getElem?_map, List.getElem?_eq_getElem hkq]; rfl
      rw [hrd] at hc0 hc1
      have hqk : (qs[k]?).toList = [qs[k]] := by rw [List.getElem?_eq_getElem hkq]; rfl
      have HQK := Lib.hid hqk
      clear hqk hrd
      generalize qs[k] = xq at *
      obtain ⟨W1, hW1⟩ : ∃ W1, W1 = wr.alloc (.cells #[.int .i64 (f xq).f0, .string (f xq).f1] 88) := ⟨_, rfl⟩
      have hK1 : KeepX n1 R w0 W1 := by rw [hW1]; exact hK.trans (KeepX.alloc _ _ (by have := hK.1; omega))
      have hf1 := hf W1 hK1
      have hJ1 : J (chosenL is qs k) W1 := by rw [hW1]; exact hJ _ _ _ none hJs (World.grownBy_alloc wr _ none) (fun r e => by cases e)
      have hx1 : W1.cell? ⟨wr.heap.size, 0, none⟩ = some (.int .i64 (f xq).f0) := by rw [hW1]; simp
      have hx2 : W1.cell? ⟨wr.heap.size, 1, none⟩ = some (.string (f xq).f1) := by rw [hW1]; simp
      have hIs1 := hIs W1 hK1 k hlt
      rw [hW1] at hf1
      have HIS := Lib.hid hIs1
      have HW1 := Lib.hid hW1
      clear hIs1 hW1
      have HIs := Lib.hid hIs; have Hd := Lib.hid hd; have Hf := Lib.hid hf; have HC := Lib.hid hC
      clear hIs hd hf hC
      gi_wp2_with fail
      rw [← HW1.out]
      refine ⟨trivial, (callsIn_wide.2 HIS.out).mono ?_⟩
      rintro e w' ⟨rfl, hdr⟩
      obtain ⟨q, rfl⟩ := hdr.out
      have hJ2 : J (chosenL is qs k) (W1.drewN q) := hJ _ _ _ none hJ1 (pw_grown_drewN W1 q) (fun r e => by cases e)
      cases hq : is k with
      | true =>
        obtain ⟨fn, tmps, assign, body, hy, hR⟩ := hY _ xq (W1.drewN q) hJ2 (by have := chosenL_len is qs k; omega)
        unfold putV at hy
        gi_wp2_with fail
        refine hR.mono ?_
        have hch : chosenL is qs (k + 1) = chosenL is qs k ++ [xq] := by show (if is k then _ else _) = _; rw [hq, ← HQK.out]; rfl
        have HCH := Lib.hid hch
        clear hch hq
        rintro e W3 (⟨rfl, hJ3, hk3⟩ | ⟨rfl, hJx3⟩)
        · gi_wp2_with fail
          go_roundw
          case rel => exact ⟨k + 1, by omega, by go_num, by rw [HCH.out]; exact hJ3, (hK1.trans (KeepX.drewN _ _)).trans hk3⟩
          case measure => simp [intOf]; omega
        · gi_wp2_with fail
          refine bodyPost_ret (results_none rfl _ _ _) rfl ?_
          exact ⟨⟨_, rfl⟩, .inr ⟨_, ⟨k + 1, by omega, HCH.out.symm⟩, hJx3⟩⟩
      | false =>
        gi_wp2_with fail
        refine ⟨fun _ h => (by cases h), ?_⟩
        gi_wp2_with fail
        go_roundw
        case rel => exact ⟨k + 1, by omega, by go_num, by show J (if is k then _ else _) _; rw [hq]; exact hJ2, hK1.trans (KeepX.drewN _ _)⟩
        case measure => simp [intOf]; omega
    · obtain rfl : k = ps.length := by omega
      gi_wp2
      go_end0
      exact ⟨⟨_, rfl⟩, .inl ⟨_, rfl, hJs⟩⟩
end Go.Proofs.Ytcbfnfggnocndaa.Q
end

section
/- Layer 4, walked: the sectors with some writes done. -/
set_option linter.unusedVariables false
set_option linter.unusedSimpArgs false
namespace Go.Proofs.Ytcbfnfggnocndaa.Q
open Go.RowKit Go.Shelf Go.Proofs.YtcbfnfggnocndaaW.PrintWords
attribute [local go_sem] Oper.semAt_some

def imgL (l : List ByteArray) (ps : List S88) : List ByteArray := ps.foldl (fun l p => l.set p.f0.toNat p.f1) l
theorem imgL_len (ps : List S88) : ∀ l : List ByteArray, (imgL l ps).length = l.length := by
  induction ps with
  | nil => intro l; rfl
  | cons p ps ih => intro l; show (imgL (l.set _ _) ps).length = _; rw [ih]; simp
theorem imgL_snoc (l : List ByteArray) (ps : List S88) (x : S88) : imgL l (ps ++ [x]) = (imgL l ps).set x.f0.toNat x.f1 := by simp [imgL]
def doneL (l0 : List ByteArray) (ps : List S88) (is : Nat → Bool) : List ByteArray := imgL l0 (chosenL is ps ps.length)
theorem kPut_heap : Kd.Heap k88 := Kd.heap_iso _ (Kd.heap_pair (Kd.heap_int .i64) Kd.heap_string)
/-- What is handed on, told to lie among the sectors. -/
abbrev PutIn (N : Nat) : Type := { x : S88 // 0 ≤ x.f0 ∧ x.f0 < (N : Int) }
theorem ownFrom_heap {β : Type} (B b : Nat) (t : TypeId) (f : β → Array Value) : OwnFrom B (fun s W => W.heap[b]? = some (.cells (f s) t (0, 0))) := fun s X Y row hs hg hrow =>
  blk_grown hs hg (fun e' => by obtain ⟨_, o, ho, hc⟩ := hrow b e'.symm; rw [hs] at ho; cases ho; cases hc)
set_option maxHeartbeats 1000000 in
theorem chosen_calls (d fv : Value) (a b c : Value) (hd : d = .agg #[a, b, c]) (ha : a.oneCell' = true) (hb : b.oneCell' = true) (hc : c.oneCell' = true) (hf : fv.oneCell' = true) (w : World) :
    Calls Try.prog 77 #[d, fv] w fun e w' => e = .returned (.func (.func 81) #[] #[.pointer (some ⟨w.heap.size, 0, none⟩), .pointer (some ⟨w.heap.size + 1, 0, none⟩)]) ∧
      w' = (w.alloc (.cells #[a, b, c] 25)).alloc (.cells #[fv] 110) := by
  subst hd
  go_enter Try.func77, Try.ntmps77
  go_wp2
  go_ret
  exact ⟨rfl, rfl⟩
theorem info_str : (Try.prog.info? 9).map (fun i => (i.zero, i.size, i.bytes)) = some (some (.string ⟨#[]⟩), 1, 16) := by kernel_rfl
theorem info_str1 : (Try.prog.info? 9).map (·.size) = some 1 := by kernel_rfl
set_option maxRecDepth 100000 in
set_option maxHeartbeats 4000000 in
theorem done_calls (l0 : List ByteArray) (ps : List S88) (A0 A1 : Option Addr) (c0 c1 : Nat) (off : Bool) (g : FuncId) (lb : Array Value) (is : Nat → Bool) (w : World) (hn : 0 < l0.length) (hn2 : l0.length ≤ 1000000000) (hlen : ps.length ≤ 1000000000)
    (hr0 : Kd.C Kd.string w A0 l0.length l0) (hr1 : Kd.C k88 w A1 ps.length ps) (hAt : ∀ p ∈ ps, 0 ≤ p.f0 ∧ p.f0 < l0.length)
    (eg : ∀ args W, (callFunc g args).run Try.prog W = .ok (.enter g args) W)
    (hIs : ∀ W, KeepX w.heap.size w.heap.size w W → ∀ k : Nat, k < ps.length → Calls Try.prog g (#[.int .i64 k] ++ lb) W fun e w' => e = .returned (.bool (is k)) ∧ Drawn0 W w') :
    Calls Try.prog 67 #[.agg #[.slice A0 l0.length c0, .slice A1 ps.length c1, .bool off], .func (.func g) #[] lb] w fun e w' =>
      ∃ v, e = .returned v ∧ Kd.R Kd.string 9 w' w.heap.size (fun _ => True) v (doneL l0 ps is) ∧ Below w.heap.size w w' := by
  obtain ⟨W1, hW1⟩ : ∃ W1, W1 = w.alloc (.cells #[.slice A0 l0.length c0, .slice A1 ps.length c1, .bool off] 25) := ⟨_, rfl⟩
  have hmk := print_make_of (P := Try.prog) 22 9 (.string ⟨#[]⟩) 16 Try.underlying22 info_str rfl (by decide) l0.length (by omega)
  obtain ⟨W3, hW3⟩ : ∃ W3, W3 = (W1.alloc (.cells (madeCells #[.string ⟨#[]⟩] l0.length) 9)).alloc (.cells #[.slice (some ⟨w.heap.size + 1, 0, none⟩) l0.length l0.length] 22) := ⟨_, rfl⟩
  obtain ⟨ad, rfl⟩ : ∃ ad, A0 = some ad := by obtain ⟨ad, h, _⟩ := Kd.at_string hr0 0 (by omega) (by omega); exact ⟨ad, h⟩
  have z1 : W1.heap.size = w.heap.size + 1 := by rw [hW1]; simp
  have z3 : W3.heap.size = w.heap.size + 3 := by rw [hW3]; simp [z1]
  have hB3 : Below w.heap.size w W3 := by
    rw [hW3, hW1]
    exact (((Below.refl _ w).alloc (Nat.le_refl _) _).alloc (by simp) _).alloc (by simp; omega) _
  have hrow3 : W3.heap[w.heap.size + 1]? = some (.cells (madeCells #[.string ⟨#[]⟩] l0.length) 9 (0, 0)) := by
    rw [hW3, ← z1]; exact (heap_alloc_old _ _ (by simp)).trans (heap_alloc_new _ _)
  obtain ⟨W4, hW4⟩ : ∃ W4, W4 = W3.setCells (w.heap.size + 1) 0 (l0.map Value.string) := ⟨_, rfl⟩
  have hcp : (Builtin.copy_ #[22, 22] 3 #[.slice (some ⟨w.heap.size + 1, 0, none⟩) l0.length l0.length, .slice (some ad) l0.length c0]).run Try.prog W3 = .ok (.int .i64 l0.length) W4 := by
    have h3 := Kd.C_below hr0 hB3
    have h := run_copy_cells (P := Try.prog) W3 22 22 3 9 (w.heap.size + 1) 0 l0.length l0.length ad l0.length c0 (l0.map Value.string) Try.underlying22 info_str1 (by simp [Nat.min_def])
      (fun j v hj => by
        rw [List.getElem?_map] at hj
        cases hjj : l0[j]? with
        | none => rw [hjj] at hj; cases hj
        | some x =>
          rw [hjj] at hj
          obtain rfl : Value.string x = v := by simpa using hj
          obtain ⟨hl, hx⟩ := List.getElem?_eq_some_iff.1 hjj
          obtain ⟨ad', he, hc⟩ := Kd.at_string h3 (j : Int) (by omega) (by omega)
          obtain rfl : ad = ad' := Option.some.inj he
          rw [Int.toNat_natCast] at hc
          rw [hc, rdOf, Int.toNat_natCast, List.getD_eq_getElem?_getD, hjj]; rfl)
      (fun j hj => by rw [blk_cell hrow3, Array.getElem?_eq_getElem (by rw [size_madeCells]; simpa using hj)]; rfl)
      (fun j hj => blk_frozen hrow3 _) (fun v hv => by obtain ⟨x, _, rfl⟩ := List.mem_map.1 hv; rfl)
    rw [List.length_map] at h
    rw [hW4]
    exact h
  have HR0 := Lib.hid hr0; have HR1 := Lib.hid hr1; have HAT := Lib.hid hAt; have HIS := Lib.hid hIs
  clear hr0 hr1 hAt hIs
  -- what W4 holds
  have z4 : W4.heap.size = w.heap.size + 3 := by rw [hW4]; exact (setCells_same _ _ _ _).2.2.2.trans z3
  have hB4 : Below w.heap.size w W4 := by
    have hs := setCells_same (w.heap.size + 1) (l0.map Value.string) 0 W3
    refine ⟨?_, ?_, ?_, by omega, fun k hk => ?_⟩
    · rw [hW4, hs.1]; exact hB3.os
    · rw [hW4, hs.2.1]; exact hB3.tape
    · rw [hW4, hs.2.2.1]; exact hB3.output
    · rw [hW4, setCells_far _ _ _ (by omega)]; exact hB3.block k hk
  have hd4 : W4.heap[w.heap.size]? = some (.cells #[.slice (some ad) l0.length c0, .slice A1 ps.length c1, .bool off] 25 (0, 0)) := by
    rw [hW4, setCells_far _ _ _ (by omega), hW3]
    refine (heap_alloc_old _ _ (by simp; omega)).trans ((heap_alloc_old _ _ (by omega)).trans ?_)
    rw [hW1]; exact heap_alloc_new _ _
  have ho4 : Boxed W4 (w.heap.size + 1 + 1) 22 (.slice (some ⟨w.heap.size + 1, 0, none⟩) l0.length l0.length) := by
    show W4.heap[w.heap.size + 1 + 1]? = _
    rw [hW4, setCells_far _ _ _ (by omega), hW3]
    have h := heap_alloc_new (W1.alloc (.cells (madeCells #[.string ⟨#[]⟩] l0.length) 9)) (.cells #[.slice (some ⟨w.heap.size + 1, 0, none⟩) l0.length l0.length] 22)
    rw [show (W1.alloc (.cells (madeCells #[.string ⟨#[]⟩] l0.length) 9)).heap.size = w.heap.size + 1 + 1 by simp [z1]] at h
    exact h
  have hrow4 : W4.heap[w.heap.size + 1]? = some (.cells (l0.map Value.string).toArray 9 (0, 0)) := by
    rw [hW4]
    obtain ⟨cur, h1, h2, h3⟩ := setCells_row (l0.map Value.string) 0 W3 _ hrow3 (by rw [size_madeCells]; simp)
    rw [h1]
    congr 2
    apply Array.toList_inj.1
    rw [h3, List.take_zero, List.nil_append, List.drop_of_length_le (by simp [size_madeCells]), List.append_nil]
  rw [hW3, hW1] at hcp
  have HW1 := Lib.hid hW1; have HW3 := Lib.hid hW3; have HW4 := Lib.hid hW4; have HROW3 := Lib.hid hrow3; have HB3 := Lib.hid hB3
  clear hW1 hW3 hW4 hrow3 hB3 z3 z1
  have e0 := blk_cell hd4 0; have e1 := blk_cell hd4 1; have e2 := blk_cell hd4 2
  simp only [List.getElem?_toArray, List.getElem?_cons_zero, List.getElem?_cons_succ] at e0 e1 e2
  have HD4 := Lib.hid hd4; have HO4 := Lib.hid ho4; have HROW4 := Lib.hid hrow4; have HB4 := Lib.hid hB4; have HZ4 := Lib.hid z4
  clear hd4 ho4 hrow4 hB4
  refine (callsIn_wide (n := 6)).1 ?_
  refine callsIn_of_wp_marks Try.func67 rfl trivial ?_ rfl
  simp only [Try.ntmps67, List.size_toArray, List.length_cons, List.length_nil, Nat.reduceAdd, Nat.reduceSub, Array.replicate_succ, Array.replicate_zero, List.push_toArray, List.append_toArray, List.nil_append, List.cons_append]
  gi_wp2_with fail
  refine ⟨trivial, (callsIn_wide.2 (chosen_calls _ _ _ _ _ rfl rfl rfl rfl rfl W4)).mono ?_⟩
  rintro e w5 ⟨rfl, hw5⟩
  have z5 : w5.heap.size = w.heap.size + 5 := by rw [hw5]; simp [z4]
  have k5 : KeepX W4.heap.size (w.heap.size + 1) W4 w5 := by rw [hw5]; exact (KeepX.alloc _ _ (Nat.le_refl _)).trans (KeepX.alloc _ _ (by simp))
  have hB5 : Below w.heap.size w w5 := by rw [hw5]; exact (HB4.out.alloc HB4.out.size _).alloc (by have := HB4.out.size; simp; omega) _
  have hr5 : w5.heap[w.heap.size + 1]? = some (.cells (l0.map Value.string).toArray 9 (0, 0)) := by
    rw [hw5]; exact (heap_alloc_old _ _ (by simp only [World.size_alloc]; omega)).trans ((heap_alloc_old _ _ (by omega)).trans HROW4.out)
  have ho5 : Boxed w5 (w.heap.size + 1 + 1) 22 (.slice (some ⟨w.heap.size + 1, 0, none⟩) l0.length l0.length) := by
    rw [hw5]; exact (HO4.out.alloc _).alloc _
  have hd5 : w5.heap[W4.heap.size]? = some (.cells #[.slice (some ad) l0.length c0, .slice A1 ps.length c1, .bool off] 25 (0, 0)) := by
    rw [hw5]; exact (heap_alloc_old _ _ (by simp)).trans (heap_alloc_new _ _)
  have hf5 : w5.heap[W4.heap.size + 1]? = some (.cells #[.func (.func g) #[] lb] 110 (0, 0)) := by
    rw [hw5]
    have h := heap_alloc_new (W4.alloc (.cells #[.slice (some ad) l0.length c0, .slice A1 ps.length c1, .bool off] 25)) (.cells #[.func (.func g) #[] lb] 110)
    rw [show (W4.alloc (.cells #[.slice (some ad) l0.length c0, .slice A1 ps.length c1, .bool off] 25)).heap.size = W4.heap.size + 1 by simp] at h
    exact h
  obtain ⟨qs, hqs⟩ : ∃ qs : List (PutIn l0.length), ps = qs.map (·.1) := ⟨ps.attach.map fun x => ⟨x.1, HAT.out x.1 x.2⟩, by
    rw [List.map_map]
    exact (List.attach_map_subtype_val ps).symm⟩
  have hkk : ∀ W, KeepX w5.heap.size (w.heap.size + 1) w5 W → KeepX w.heap.size w.heap.size w W := fun W hW =>
    ⟨Nat.le_trans hB5.size hW.1, fun b hb _ => (hW.2 b (by omega) (by omega)).trans (hB5.block b hb)⟩
  have hCC : ∀ W, KeepX w5.heap.size (w.heap.size + 1) w5 W → Kd.C k88 W A1 ps.length ps := fun W hW =>
    Kd.F_now (Kd.F_step (Kd.C_F kPut_heap HR1.out) (fun k hk _ => (hkk W hW).2 k hk (by omega)))
  have HR5 := Lib.hid hr5; have HO5 := Lib.hid ho5; have HB5 := Lib.hid hB5
  clear hr5 ho5 hB5
  have HK5 := Lib.hid k5; have HD5 := Lib.hid hd5; have HF5 := Lib.hid hf5; have HKK := Lib.hid hkk; have HCC := Lib.hid hCC; have HQS := Lib.hid hqs; have HW5 := Lib.hid hw5
  rw [z4] at hd5 hf5
  clear HD5 HF5
  have HD5 := Lib.hid hd5; have HF5 := Lib.hid hf5
  clear k5 hd5 hf5 hkk hCC hqs hw5 e0 e1 e2 hcp
  gi_wp2_with fail
  refine wpIn_rangeFunc_ownH rfl (by omega) (gf := 81) (lb := #[.pointer (some ⟨w.heap.size + 3, 0, none⟩), .pointer (some ⟨w.heap.size + 3 + 1, 0, none⟩)]) rfl trivial (enters_of Try.func81 (by kernel_rfl) rfl)
    (encs := fun x : PutIn l0.length => #[.agg #[.int .i64 x.1.f0, .string x.1.f1]]) (Kp := KeepX w5.heap.size (w.heap.size + 1)) (S := fun ys => ys = chosenL is qs ps.length) (Sp := fun pre => ∃ k, k ≤ ps.length ∧ pre = chosenL is qs k) (N := ps.length) (w0 := w5)
    (fun l J Jx W hW hJ hJx hY h0 => chosen1_in (fun x : PutIn l0.length => x.1) qs 5 (by omega) l (w.heap.size + 3) (w.heap.size + 3 + 1) w5.heap.size (w.heap.size + 1) g lb ps HQS.out A1 c1 is w5 (Nat.le_refl _) eg (by omega)
      (fun W hW => by rw [hW.cell (by omega) (by omega), blk_cell HD5.out]; rfl) (fun W hW => by rw [hW.cell (by omega) (by omega), blk_cell HF5.out]; rfl) HCC.out
      (fun W hW k hk => HIS.out W (HKK.out W hW) k hk) J Jx W (KeepX.below hW (Nat.le_refl _)) hJ hJx hY h0)
    (fun h k => KeepX.trans h k) (fun W l o o' hl ho _ _ => KeepX.put W l o o' hl ho) (Below.refl _ _) (fun _ => rfl)
    (fun pre W => W.heap[w.heap.size + 1]? = some (.cells ((imgL l0 (pre.map (·.1))).map Value.string).toArray 9 (0, 0)) ∧ (Boxed W (w.heap.size + 1 + 1) 22 (.slice (some ⟨w.heap.size + 1, 0, none⟩) l0.length l0.length) ∧ (Below w.heap.size w W ∧ w5.heap.size ≤ W.heap.size)))
    (fun _ _ _ => False)
    (OwnFrom.and (ownFrom_heap _ _ _ (fun (pre : List (PutIn l0.length)) => ((imgL l0 (pre.map (·.1))).map Value.string).toArray)) (OwnFrom.and (Own.from (boxed_own _ _ (fun _ => _)) _) (OwnFrom.and (ownFrom_below (Nat.le_refl _) (by omega)) (fun _ _ _ _ hs hg _ => Nat.le_trans hs hg.size))))
    (fun _ _ _ _ _ hs _ _ => hs)
    ⟨HR5.out, HO5.out, HB5.out, Nat.le_refl _⟩
    (fun x a' W => ∃ Bx, w5.heap.size ≤ Bx ∧ W.heap[Bx]? = some (.cells #[.int .i64 x.1.f0, .string x.1.f1] 88 (0, 0)) ∧ a' = { tmps := #[.agg #[.slice (some ad) l0.length c0, .slice A1 ps.length c1, .bool off], .func (.func g) #[] lb, .pointer (some ⟨w.heap.size, 0, none⟩), undef, .slice none 0 0, .pointer (some ⟨w.heap.size + 1 + 1, 0, none⟩), .pointer (some ⟨Bx, 0, none⟩), .pointer (some ⟨w.heap.size, 0, none⟩), .slice (some ad) l0.length c0, .int .i64 l0.length, .slice (some ⟨w.heap.size + 1, 0, none⟩) l0.length l0.length, .slice (some ⟨w.heap.size + 1, 0, none⟩) l0.length l0.length, .pointer (some ⟨w.heap.size, 0, none⟩), .slice (some ad) l0.length c0, .int .i64 l0.length, .agg #[.slice (some ad) l0.length c0, .slice A1 ps.length c1, .bool off], .func (.func g) #[] lb, .func (.func 81) #[] #[.pointer (some ⟨w.heap.size + 3, 0, none⟩), .pointer (some ⟨w.heap.size + 3 + 1, 0, none⟩)], .agg #[.int .i64 x.1.f0, .string x.1.f1], undef, undef, undef, undef, undef, undef, undef], defers := [] })
    (fun x a' _ X Y row hs hg hrow => by obtain ⟨Bx, h1, h2, h3⟩ := hs; exact ⟨Bx, h1, ownFrom_heap w5.heap.size Bx _ (fun _ : Unit => _) () X Y row h2 hg hrow, h3⟩) ?assign ?body ?done ?stop
  case assign =>
    rintro l pre x W K hi hK
    gi_wp2_with fail
    exact hK _ _ ((KeepsOthers.alloc _ _).from _) (KeepX.alloc _ _ hi.2.2.2) ⟨(heap_alloc_old _ _ (blk_lt hi.1)).trans hi.1, hi.2.1.alloc _, hi.2.2.1.alloc hi.2.2.1.size _, by have := hi.2.2.2; simp; omega⟩ ⟨W.heap.size, hi.2.2.2, heap_alloc_new _ _, rfl⟩
  case body =>
    rintro l pre x a' W hl hr ⟨hrow, hbox, hB, hsz⟩ ⟨Bx, hBx, hx, rfl⟩ hlt
    have hc := hbox.cell
    have x0 := blk_cell hx 0; have x1 := blk_cell hx 1
    simp only [List.getElem?_toArray, List.getElem?_cons_zero, List.getElem?_cons_succ] at x0 x1
    have hi0 : (0 : Int) ≤ x.1.f0 := x.2.1
    have hi1 : x.1.f0 < (l0.length : Int) := x.2.2
    have hlen2 : (imgL l0 (pre.map (·.1))).length = l0.length := imgL_len _ _
    obtain ⟨v, hv⟩ : ∃ v, W.cell? ⟨w.heap.size + 1, x.1.f0.toNat, none⟩ = some v := by
      rw [blk_cell hrow]
      exact ⟨_, Array.getElem?_eq_getElem (by rw [List.size_toArray, List.length_map, hlen2]; omega)⟩
    have hfz := blk_frozen hrow x.1.f0.toNat
    have HROW := Lib.hid hrow; have HBOX := Lib.hid hbox; have HB := Lib.hid hB; have HL2 := Lib.hid hlen2; have HX := Lib.hid hx
    clear hrow hbox hB hlen2 hx
    gi_wp2_with fail
    refine ⟨(KeepsOthers.setCell _ _ _).from _, KeepX.set _ _ _, ?_, blk_far HBOX.out (by simp) _, HB.out.setCell (p := ⟨w.heap.size + 1, x.1.f0.toNat, none⟩) (by simp) _, by simpa using hsz⟩
    rw [blk_set HROW.out, List.map_append, List.map_cons, List.map_nil, imgL_snoc, List.map_set, List.setIfInBounds_toArray]
  case done =>
    rintro D ys W hD rfl ⟨hrow, hbox, hB, hsz⟩ hK
    have hc := hbox.cell
    gi_wp2
    refine ⟨by simp, .inl ⟨_, _, rfl, run_takeDeferred hK, ?_⟩⟩
    have he : (imgL l0 ((chosenL is qs ps.length).map (·.1))) = doneL l0 ps is := by
      unfold doneL
      rw [← chosenL_map, ← HQS.out]
    have hlen3 : (doneL l0 ps is).length = l0.length := imgL_len _ _
    refine ⟨_, results_tmp rfl _ _ _, _, rfl, Kd.R_of_own ?_ (fun _ _ => trivial), hB.trans (belowK_b (w := w) (Nat.le_refl _) W D _ _ (by omega) hK rfl rfl)⟩
    refine ownsRow_putObj ?_ _ hK rfl
    rw [he] at hrow
    rw [hlen3]
    exact ⟨by simp [encs, hlen3], .inr ⟨_, _, _, rfl, by omega, hrow, Nat.le_refl _, by unfold maxLen; omega, by simp [hlen3], by rw [Nat.mul_one, List.toList_toArray, List.take_of_length_le (by simp [hlen3])]; rfl⟩⟩
  case stop =>
    rintro D c pre W _ _ h _
    exact h.elim
/-- All writes may be done, and no memory runs out. -/
def DiskOk (l0 : List ByteArray) (ps : List S88) : Prop := 0 < l0.length ∧ l0.length ≤ 1000000000 ∧ ps.length ≤ 1000000000 ∧ ∀ p ∈ ps, 0 ≤ p.f0 ∧ p.f0 < (l0.length : Int)
instance (l0 : List ByteArray) (ps : List S88) : Decidable (DiskOk l0 ps) := by unfold DiskOk; exact inferInstance
def disk_Image.f (l0_0 : List ByteArray) (l0_1 : List S88) (a0_2 : Bool) : Option (List ByteArray) := if DiskOk l0_0 l0_1 then some (doneL l0_0 l0_1 fun _ => true) else none
set_option maxHeartbeats 1000000 in
theorem image1_calls (k : Nat) (w : World) : Calls Try.prog 68 (#[.int .i64 k] ++ #[]) w fun e w' => e = .returned (.bool true) ∧ Drawn0 w w' := by
  go_enter Try.func68, Try.ntmps68
  go_wp2
  go_ret
  exact ⟨rfl, Drawn0.refl _⟩
set_option maxHeartbeats 1000000 in
theorem disk_Image.calls (A0_0 : Option Addr) (c0_0 : Nat) (l0_0 : List ByteArray) (A0_1 : Option Addr) (c0_1 : Nat) (l0_1 : List S88) (a0_2 : Bool) (r : List ByteArray) (w : World) (hr0_0 : Kd.C Kd.string w A0_0 l0_0.length l0_0) (hc0_0 : l0_0.length ≤ c0_0) (hr0_1 : Kd.C k88 w A0_1 l0_1.length l0_1) (hc0_1 : l0_1.length ≤ c0_1) (h : disk_Image.f l0_0 l0_1 a0_2 = some r) :
    Calls Try.prog 56 #[.agg #[.slice A0_0 l0_0.length c0_0, .slice A0_1 l0_1.length c0_1, .bool a0_2]] w fun e w' => ∃ v0_ : Value, e = .returned (v0_) ∧ Kd.R Kd.string 9 w' w.heap.size (fun _ => True) v0_ r ∧ Below w.heap.size w w' := by
  unfold disk_Image.f at h
  split at h
  · rename_i hh
    obtain rfl := Option.some.inj h
    clear h
    have HC := Lib.hid (fun W' (hb : Below w.heap.size w W') => done_calls l0_0 l0_1 A0_0 A0_1 c0_0 c0_1 a0_2 68 #[] (fun _ => true) W' hh.1 hh.2.1 hh.2.2.1 (Kd.C_below hr0_0 hb) (Kd.C_below hr0_1 hb) hh.2.2.2 (enters_of Try.func68 (by kernel_rfl) rfl) (fun W _ k _ => image1_calls k W))
    clear hr0_0 hr0_1 hh
    go_enter Try.func56, Try.ntmps56
    go_wp2_with fail
    refine (HC.out _ ((Below.refl _ _).alloc (Nat.le_refl _) _)).mono ?_
    rintro e w' ⟨v, rfl, hR, hB⟩
    obtain ⟨A, c, rfl⟩ := Kd.R_slice hR
    have HR := Lib.hid hR; have HB := Lib.hid hB
    clear hR hB
    go_wp2_with fail
    go_ret
    exact ⟨_, rfl, Kd.R_lower HR.out (by simp), (Below.refl _ _).trans (((Below.refl _ _).alloc (Nat.le_refl _) _).trans (HB.out.mono (by simp)))⟩
  · cases h
/-- Is a write kept behind a crash? -/
def keptAt (keep : List Bool) (i : Nat) : Bool := keep.getD i false
def disk_Crash.f (l0_0 : List ByteArray) (l0_1 : List S88) (a0_2 : Bool) (l1 : List Bool) : Option (List ByteArray × List S88 × Bool) := if DiskOk l0_0 l0_1 then some (doneL l0_0 l0_1 (keptAt l1), [], false) else none
end Go.Proofs.Ytcbfnfggnocndaa.Q
end

section
/- Plain lemmas on texts and numbers, without program and memory. -/
namespace Go.Proofs.Ytcbfnfggnocndaa.Math
open Go.RowKit

theorem tl (s : ByteArray) : s.toList = s.data.toList := ByteArray.toList_eq s
theorem sz (s : ByteArray) : s.size = s.data.toList.length := by rw [Array.length_toList]; rfl
theorem app (a b : ByteArray) : (a ++ b).data.toList = a.data.toList ++ b.data.toList := by rw [ByteArray.data_append, Array.toList_append]
theorem app_size (a b : ByteArray) : (a ++ b).size = a.size + b.size := by rw [sz, app, List.length_append, ← sz, ← sz]
theorem ext_ (s : ByteArray) (a b : Nat) : (s.extract a b).data.toList = (s.data.toList.take b).drop a := by
  rw [ByteArray.data_extract, Array.toList_extract, List.extract_eq_take_drop, List.drop_take]
theorem inj {a b : ByteArray} (h : a.data.toList = b.data.toList) : a = b := WideShapes.bytes_inj h
theorem nums_dl (xs : List Int) : (strOfNums xs).data.toList = xs.map fun n => UInt8.ofNat n.toNat := rfl
theorem nums_size (xs : List Int) : (strOfNums xs).size = xs.length := strOfNums_size xs
theorem w64 {n : Int} (h0 : -9223372036854775808 ≤ n) (h1 : n ≤ 9223372036854775807) : wrap64 n = n := by unfold wrap64; omega
theorem litu64 {n : Int} (h : (Lit.int .u64 n).wf = true) : 0 ≤ n ∧ n < 18446744073709551616 := by
  simp [Lit.wf, IntKind.min, IntKind.max, IntKind.signed, IntKind.bits] at h; omega
/-- A call that is known ('simp only [Option.bind_some]' would leave the kernel a comparison without end). -/
theorem bs {α β : Type} {o : Option α} {a : α} {g : α → Option β} (h : o = some a) : o.bind g = g a := by rw [h]; rfl
end Go.Proofs.Ytcbfnfggnocndaa.Math
end

section
/- Layer 4, walked: Write. -/
set_option linter.unusedVariables false
set_option linter.unusedSimpArgs false
namespace Go.Proofs.Ytcbfnfggnocndaa.Q
open Go.RowKit Go.Shelf Go.Proofs.YtcbfnfggnocndaaW.PrintWords Go.Proofs.YtcbfnfggnocndaaW.PrintLast Go.Proofs.YtcbfnfggnocndaaW.PrintMore

/-- A text filled up with bytes of 0. -/
def fillS (s : ByteArray) : ByteArray := s ++ strOfNums (List.replicate (64 - s.size) 0)
theorem zeros_calls (n : Nat) (hn : n ≤ 64) (w : World) : Calls Try.prog 61 #[.int .i64 n] w fun e w' => e = .returned (.string (strOfNums (List.replicate n 0))) ∧ Below w.heap.size w w' :=
  T.disk_zeros.calls n _ w (by unfold T.disk_zeros.f; rw [if_pos (by omega), if_pos (by simp; omega)]; simp)
/-- What lies there while the row is made. -/
structure WBox (w : World) (a b c : Value) (W : World) : Prop where
  below : Below w.heap.size w W
  box : W.heap[w.heap.size]? = some (.cells #[a, b, c] 25 (0, 0))
  out : W.heap[w.heap.size + 1]? = some (.cells #[.slice none 0 0, .slice none 0 0, .bool false] 25 (0, 0))
theorem WBox.step {w : World} {a b c : Value} {W V : World} (h : WBox w a b c W) (hb : Below W.heap.size W V) : WBox w a b c V :=
  ⟨h.below.trans (hb.mono h.below.size), (hb.block _ (blk_lt h.box)).trans h.box, (hb.block _ (blk_lt h.out)).trans h.out⟩
theorem WBox.cell {w : World} {a b c : Value} {W : World} (h : WBox w a b c W) : W.cell? ⟨w.heap.size, 1, none⟩ = some b := by rw [blk_cell h.box]; rfl
theorem info_put : (Try.prog.info? 88).map (fun i => (i.zero, i.size, i.bytes)) = some (some (.agg #[.int .i64 0, .string ⟨#[]⟩]), 2, 24) := by kernel_rfl
def flatP (l : List S88) : List Value := (l.map fun x => [Value.int .i64 x.f0, Value.string x.f1]).flatten
theorem flatP_len (l : List S88) : (flatP l).length = l.length * 2 := by
  induction l with
  | nil => rfl
  | cons x l ih => simp only [flatP, List.map_cons, List.flatten_cons, List.length_append, List.length_cons, List.length_nil] at ih ⊢; omega
theorem flatP_at (l : List S88) : ∀ (j : Nat) (hj : j < l.length), (flatP l)[j * 2]? = some (.int .i64 l[j].f0) ∧ (flatP l)[j * 2 + 1]? = some (.string l[j].f1) := by
  induction l with
  | nil => intro j hj; cases hj
  | cons x l ih =>
    intro j hj
    cases j with
    | zero => exact ⟨rfl, rfl⟩
    | succ j =>
      have h := ih j (by simpa using hj)
      have e1 : (j + 1) * 2 = j * 2 + 1 + 1 := by omega
      rw [e1]
      simp only [flatP, List.map_cons, List.flatten_cons, List.cons_append, List.nil_append, List.getElem?_cons_succ, List.getElem_cons_succ] at h ⊢
      exact h
theorem flatP_reads {w : World} {A : Option Addr} {l : List S88} (h : Kd.C k88 w A l.length l) : ∀ b, A = some b → ∀ j u, (flatP l)[j]? = some u → w.cell? (b.add j) = some u := by
  intro b hb j u hj
  have hl : j < l.length * 2 := by rw [← flatP_len]; exact (List.getElem?_eq_some_iff.1 hj).1
  obtain ⟨ad, he, h0, h1⟩ := at_T88 h ((j / 2 : Nat) : Int) (by omega) (by omega)
  rw [hb] at he
  obtain rfl := Option.some.inj he
  rw [Int.toNat_natCast] at h0 h1
  have hd := flatP_at l (j / 2) (by omega)
  have hrd : rd_T88 l ((j / 2 : Nat) : Int) = l[j / 2]'(by omega) := by
    show l.getD (j / 2) _ = _
    rw [List.getD_eq_getElem?_getD, List.getElem?_eq_getElem (by omega)]; rfl
  rw [hrd] at h0 h1
  rcases Nat.mod_two_eq_zero_or_one j with hm | hm
  · have e : j = j / 2 * 2 := by omega
    rw [e] at hj ⊢
    rw [hd.1] at hj
    rw [← hj]
    have : j / 2 * 2 / 2 = j / 2 := by omega
    simpa [this] using h0
  · have e : j = j / 2 * 2 + 1 := by omega
    rw [e] at hj ⊢
    rw [hd.2] at hj
    rw [← hj]
    have : (j / 2 * 2 + 1) / 2 = j / 2 := by omega
    rw [← add_field _ _ 1 (by omega)] at h1
    simpa [this] using h1
/-- A row of writes that the call owns. -/
theorem R_of_rows {w : World} {base : Nat} {v : Value} {xs : List S88} (h : w.ownsRow base 88 2 v xs.length (flatP xs)) : Kd.R k88 88 w base (fun k => base ≤ k) v xs := by
  refine ⟨fun k hk => own_base h k hk, flatP xs, h, flatP_len xs, fun j p hj => ?_⟩
  obtain ⟨hl, hp⟩ := List.getElem?_eq_some_iff.1 hj
  have h2 := flatP_at xs j hl
  rw [hp] at h2
  have e : ((flatP xs).drop (j * 2)).take 2 = [.int .i64 p.f0, .string p.f1] := by
    apply List.ext_getElem?
    intro i
    rw [List.getElem?_take, List.getElem?_drop]
    match i with
    | 0 => exact h2.1
    | 1 => exact h2.2
    | i + 2 => rw [if_neg (by omega)]; rfl
  show k88.M w base _ p (((flatP xs).drop (j * 2)).take 2)
  rw [e]
  exact k88_mkM _ _ _ p
set_option maxRecDepth 100000 in
set_option maxHeartbeats 4000000 in
theorem write_good (A0_0 : Option Addr) (c0_0 n0 : Nat) (A0_1 : Option Addr) (c0_1 : Nat) (l0_1 : List S88) (at_ : Int) (s : ByteArray) (w : World) (h0 : 0 ≤ at_) (h1 : at_ < n0) (hs : s.size ≤ 64) (hn0 : n0 ≤ 9223372036854775807) (hl : l0_1.length ≤ 1000000000) (hc : l0_1.length ≤ c0_1)
    (hr : Kd.C k88 w A0_1 l0_1.length l0_1) :
    Calls Try.prog 50 #[.agg #[.slice A0_0 n0 c0_0, .slice A0_1 l0_1.length c0_1, .bool false], .int .i64 at_, .string s] w fun e w' => ∃ v1_ : Value, e = .returned (.tuple #[.agg #[.slice A0_0 n0 c0_0, v1_, .bool false], .int .i64 0]) ∧
      Kd.R k88 88 w' w.heap.size (fun _ => True) v1_ (l0_1 ++ [⟨at_, fillS s⟩]) ∧ Below w.heap.size w w' := by
  have HR := Lib.hid hr
  clear hr
  have hd1 : decide (at_ < 0) = false := decide_eq_false (by omega)
  have hd2 : decide ((n0 : Int) ≤ at_) = false := decide_eq_false (by omega)
  have hd3 : decide (64 < s.size) = false := decide_eq_false (by omega)
  have hsz : (64 : Int) - (s.size : Int) = ((64 - s.size : Nat) : Int) := by omega
  have hwr : IntKind.i64.wrap (((64 - s.size : Nat)) : Int) = ((64 - s.size : Nat) : Int) := IntWalk.i64_in _ (by omega)
  obtain ⟨i0, hi0, hz0, hz1, hz2⟩ := info_parts info_put
  have hzc := fun W => zeros_calls (64 - s.size) (by omega) W
  have hss : s.size + (strOfNums (List.replicate (64 - s.size) 0)).size ≤ 9223372036854775807 := by rw [Math.nums_size, List.length_replicate]; omega
  have hfill : fillS s = s ++ strOfNums (List.replicate (64 - s.size) 0) := rfl
  generalize strOfNums (List.replicate (64 - s.size) 0) = Z at *
  have hss2 : ¬ (9223372036854775807 < s.size + Z.size) := by omega
  have HZC := Lib.hid hzc
  have HN := Lib.hid (show A0_1 = none → l0_1.length = 0 ∧ l0_1.length = 0 from fun e => by
    subst e
    by_cases h : 0 < l0_1.length
    · obtain ⟨_, h, _⟩ := HR.out.2.2 h; cases h
    · omega)
  clear hzc
  rw [hfill]
  clear hfill
  go_enter Try.func50, Try.ntmps50
  go_wp2_with fail
  have HB0 : Hid (WBox w (.slice A0_0 n0 c0_0) (.slice A0_1 l0_1.length c0_1) (.bool false) ((w.alloc (.cells #[.slice A0_0 n0 c0_0, .slice A0_1 l0_1.length c0_1, .bool false] 25)).alloc (.cells #[.slice none 0 0, .slice none 0 0, .bool false] 25)).drew) := by
    refine Lib.hid ⟨below_drew (((Below.refl _ w).alloc (Nat.le_refl _) _).alloc (by rw [World.size_alloc]; omega) _), ?_, ?_⟩
    · exact (heap_alloc_old _ _ (by rw [World.size_alloc]; omega)).trans (heap_alloc_new _ _)
    · have h := heap_alloc_new (w.alloc (.cells #[.slice A0_0 n0 c0_0, .slice A0_1 l0_1.length c0_1, .bool false] 25)) (.cells #[.slice none 0 0, .slice none 0 0, .bool false] 25)
      rw [World.size_alloc] at h
      exact h
  refine start_ (n := 21) (S := fun w' => w'.cell? ⟨w.heap.size, 1, none⟩ = some (.slice A0_1 l0_1.length c0_1)) (ds := [20]) #[false, false, false, false, false, false, false, false, false, false, false, false, false, false, false, false, false, false, false, false, false] (by kernel_rfl) rfl rfl (HB0.out.cell) (fun hHeld => ?_)
  refine pure_ (i := 0) (N := some 29) (v := ?_) (a' := ?_) #[true, false, false, false, false, false, false, false, false, false, false, false, false, false, false, false, false, false, false, false, false] rfl rfl (by kernel_rfl) (fun _ _ _ h => h) (Or.inl ⟨by rfl, ?_⟩) ?_ ?_
  rotate_left
  · intro w'
    go_simp
    with_reducible rfl
  rotate_left
  · simp only [Act.put, List.setIfInBounds_toArray, List.set_cons_zero, List.set_cons_succ, i64_w, i32_w]
    rfl
  refine pure_ (i := 2) (N := some 31) (v := ?_) (a' := ?_) #[true, false, true, false, false, false, false, false, false, false, false, false, false, false, false, false, false, false, false, false, false] rfl rfl (by kernel_rfl) (fun _ _ _ h => h) (Or.inl ⟨by rfl, ?_⟩) ?_ ?_
  rotate_left
  · intro w'
    go_simp
    with_reducible rfl
  rotate_left
  · simp only [Act.put, List.setIfInBounds_toArray, List.set_cons_zero, List.set_cons_succ, i64_w, i32_w]
    rfl
  refine pure_ (i := 5) (N := some 34) (v := ?_) (a' := ?_) #[true, false, true, false, false, true, false, false, false, false, false, false, false, false, false, false, false, false, false, false, false] rfl rfl (by kernel_rfl) (fun _ _ _ h => h) (Or.inl ⟨by rfl, ?_⟩) ?_ ?_
  rotate_left
  · intro w'
    go_simp
    with_reducible rfl
  rotate_left
  · simp only [Act.put, List.setIfInBounds_toArray, List.set_cons_zero, List.set_cons_succ, i64_w, i32_w]
    rfl
  refine pure_ (i := 9) (N := some 38) (v := ?_) (a' := ?_) #[true, false, true, false, false, true, false, false, false, true, false, false, false, false, false, false, false, false, false, false, false] rfl rfl (by kernel_rfl) (fun _ _ _ h => h) (Or.inl ⟨by rfl, ?_⟩) ?_ ?_
  rotate_left
  · intro w'
    go_simp
    with_reducible rfl
  rotate_left
  · simp only [Act.put, List.setIfInBounds_toArray, List.set_cons_zero, List.set_cons_succ, i64_w, i32_w]
    rfl
  refine pure_ (i := 10) (N := some 39) (v := ?_) (a' := ?_) #[true, false, true, false, false, true, false, false, false, true, true, false, false, false, false, false, false, false, false, false, false] rfl rfl (by kernel_rfl) (fun _ _ _ h => h) (Or.inl ⟨by rfl, ?_⟩) ?_ ?_
  rotate_left
  · intro w'
    go_simp
    with_reducible rfl
  rotate_left
  · simp only [Act.put, List.setIfInBounds_toArray, List.set_cons_zero, List.set_cons_succ, i64_w, i32_w]
    rfl
  refine pure_ (i := 11) (N := some 40) (v := ?_) (a' := ?_) #[true, false, true, false, false, true, false, false, false, true, true, true, false, false, false, false, false, false, false, false, false] rfl rfl (by kernel_rfl) (fun _ _ _ h => h) (Or.inl ⟨by rfl, ?_⟩) ?_ ?_
  rotate_left
  · intro w'
    go_simp
    with_reducible rfl
  rotate_left
  · simp only [Act.put, List.setIfInBounds_toArray, List.set_cons_zero, List.set_cons_succ, i64_w, i32_w]
    rfl
  refine pure_ (i := 12) (N := some 41) (v := ?_) (a' := ?_) #[true, false, true, false, false, true, false, false, false, true, true, true, true, false, false, false, false, false, false, false, false] rfl rfl (by kernel_rfl) (fun _ _ _ h => h) (Or.inl ⟨by rfl, ?_⟩) ?_ ?_
  rotate_left
  · intro w'
    go_simp
    with_reducible rfl
  rotate_left
  · simp only [Act.put, List.setIfInBounds_toArray, List.set_cons_zero, List.set_cons_succ, i64_w, i32_w]
    rfl
  refine pure_ (i := 13) (N := some 42) (v := ?_) (a' := ?_) #[true, false, true, false, false, true, false, false, false, true, true, true, true, true, false, false, false, false, false, false, false] rfl rfl (by kernel_rfl) (fun _ _ _ h => h) (Or.inl ⟨by rfl, ?_⟩) ?_ ?_
  rotate_left
  · intro w'
    go_simp
    with_reducible rfl
  rotate_left
  · simp only [Act.put, List.setIfInBounds_toArray, List.set_cons_zero, List.set_cons_succ, i64_w, i32_w]
    rfl
  refine take_ (i := 1) (N := some 30) (v := ?_) (a' := ?_) #[true, true, true, false, false, true, false, false, false, true, true, true, true, true, false, false, false, false, false, false, false] rfl rfl (by kernel_rfl) (fun _ _ _ h => h) (Or.inl ⟨by rfl, ?_⟩) hHeld ?_ ?_
  rotate_left
  · intro w' s0
    go_simp
    with_reducible rfl
  rotate_left
  · simp only [Act.put, List.setIfInBounds_toArray, List.set_cons_zero, List.set_cons_succ, i64_w, i32_w]
    rfl
  refine take_ (i := 3) (N := some 32) (v := ?_) (a' := ?_) #[true, true, true, true, false, true, false, false, false, true, true, true, true, true, false, false, false, false, false, false, false] rfl rfl (by kernel_rfl) (fun _ _ _ h => h) (Or.inl ⟨by rfl, ?_⟩) hHeld ?_ ?_
  rotate_left
  · intro w' s0
    go_simp
    with_reducible rfl
  rotate_left
  · simp only [Act.put, List.setIfInBounds_toArray, List.set_cons_zero, List.set_cons_succ, i64_w, i32_w]
    rfl
  refine pure_ (i := 4) (N := some 33) (v := ?_) (a' := ?_) #[true, true, true, true, true, true, false, false, false, true, true, true, true, true, false, false, false, false, false, false, false] rfl rfl (by kernel_rfl) (fun _ _ _ h => h) (Or.inl ⟨by rfl, ?_⟩) ?_ ?_
  rotate_left
  · intro w'
    go_simp
    with_reducible rfl
  rotate_left
  · simp only [Act.put, List.setIfInBounds_toArray, List.set_cons_zero, List.set_cons_succ, i64_w, i32_w]
    rfl
  refine take_ (i := 6) (N := some 35) (v := ?_) (a' := ?_) #[true, true, true, true, true, true, true, false, false, true, true, true, true, true, false, false, false, false, false, false, false] rfl rfl (by kernel_rfl) (fun _ _ _ h => h) (Or.inl ⟨by rfl, ?_⟩) hHeld ?_ ?_
  rotate_left
  · intro w' s0
    go_simp
    with_reducible rfl
  rotate_left
  · simp only [Act.put, List.setIfInBounds_toArray, List.set_cons_zero, List.set_cons_succ, i64_w, i32_w]
    rfl
  refine pure_ (i := 7) (N := some 36) (v := ?_) (a' := ?_) #[true, true, true, true, true, true, true, true, false, true, true, true, true, true, false, false, false, false, false, false, false] rfl rfl (by kernel_rfl) (fun _ _ _ h => h) (Or.inl ⟨by rfl, ?_⟩) ?_ ?_
  rotate_left
  · intro w'
    go_simp
    with_reducible rfl
  rotate_left
  · simp only [Act.put, List.setIfInBounds_toArray, List.set_cons_zero, List.set_cons_succ, i64_w, i32_w]
    rfl
  refine pure_ (i := 8) (N := some 37) (v := ?_) (a' := ?_) #[true, true, true, true, true, true, true, true, true, true, true, true, true, true, false, false, false, false, false, false, false] rfl rfl (by kernel_rfl) (fun _ _ _ h => h) (Or.inl ⟨by rfl, ?_⟩) ?_ ?_
  rotate_left
  · intro w'
    go_simp
    with_reducible rfl
  rotate_left
  · simp only [Act.put, List.setIfInBounds_toArray, List.set_cons_zero, List.set_cons_succ, i64_w, i32_w]
    rfl
  refine one_ (i := 14) (N := some 43) #[true, true, true, true, true, true, true, true, true, true, true, true, true, true, true, false, false, false, false, false, false] rfl rfl (by kernel_rfl) (by decide) (fun K hK => ?_)
  refine goes_ Try.func61 (by kernel_rfl) rfl #[.int .i64 ((64 - s.size : Nat) : Int)] (by rfl) rfl rfl (by simp only [List.map_toArray, List.map_cons, List.map_nil]; rfl) ?_
  with_reducible refine (HZC.out _).mono ?_
  rintro e w3 ⟨rfl, hb⟩
  refine ⟨_, rfl, ?_⟩
  have hl0 := blk_lt (HB0.out.step hb).box
  have hl1 := blk_lt (HB0.out.step hb).out
  refine hK.out _ _ ((HB0.out.step hb).cell) (fun hHeld => ?_)
  clear hK K
  refine norm_ (a' := ?_) ?_ ?_
  rotate_left
  · show Act.put _ (some 43) _ = _
    simp only [Act.put, List.setIfInBounds_toArray, List.set_cons_zero, List.set_cons_succ, i64_w, i32_w]
    rfl
  refine pure_ (i := 15) (N := some 44) (v := ?_) (a' := ?_) #[true, true, true, true, true, true, true, true, true, true, true, true, true, true, true, true, false, false, false, false, false] rfl rfl (by kernel_rfl) (fun _ _ _ h => h) (Or.inl ⟨by rfl, ?_⟩) ?_ ?_
  rotate_left
  · intro w'
    go_simp
    with_reducible rfl
  rotate_left
  · simp only [Act.put, List.setIfInBounds_toArray, List.set_cons_zero, List.set_cons_succ, i64_w, i32_w]
    rfl
  refine pure_ (i := 16) (N := some 45) (v := ?_) (a' := ?_) #[true, true, true, true, true, true, true, true, true, true, true, true, true, true, true, true, true, false, false, false, false] rfl rfl (by kernel_rfl) (fun _ _ _ h => h) (Or.inl ⟨by rfl, ?_⟩) ?_ ?_
  rotate_left
  · intro w'
    go_simp
    with_reducible rfl
  rotate_left
  · simp only [Act.put, List.setIfInBounds_toArray, List.set_cons_zero, List.set_cons_succ, i64_w, i32_w]
    rfl
  refine one_ (i := 17) (N := some 46) #[true, true, true, true, true, true, true, true, true, true, true, true, true, true, true, true, true, true, false, false, false] rfl rfl (by kernel_rfl) (by decide) (fun K hK => ?_)
  refine value_ (w1 := ?_) (v := ?_) (by rfl) rfl ?_ ?_
  rotate_left 2
  · go_simp
    constructor
    · rfl
    · rfl
  refine hK.out _ _ (((HB0.out.step hb).step ((Below.refl _ _).alloc (Nat.le_refl _) _)).cell) (fun hHeld => ?_)
  clear hK K
  refine norm_ (a' := ?_) ?_ ?_
  rotate_left
  · show Act.put _ (some 46) _ = _
    simp only [Act.put, List.setIfInBounds_toArray, List.set_cons_zero, List.set_cons_succ, i64_w, i32_w]
    rfl
  refine one_ (i := 18) (N := some 47) #[true, true, true, true, true, true, true, true, true, true, true, true, true, true, true, true, true, true, true, false, false] rfl rfl (by kernel_rfl) (by decide) (fun K hK => ?_)
  refine step_append_grows rfl _ _ _ rfl 88 i0 _ 2 24 Try.underlying23 hi0 hz0 hz1 hz2 rfl (by omega) A0_1 l0_1.length l0_1.length (flatP l0_1) rfl HN.out (flatP_len _) (flatP_reads (Kd.C_below HR.out ((HB0.out.step hb).step ((Below.refl _ _).alloc (Nat.le_refl _) _)).below)) ⟨w3.heap.size, 0, none⟩ 1 1 [.int .i64 at_, .string (s ++ Z)] rfl rfl (World.news_of_block (cs := #[.int .i64 at_, .string (s ++ Z)]) (t := 88) (fr := (0, 0)) (heap_alloc_new w3 _)) (by simp [Value.oneCell']) (by omega) (by unfold maxLen; omega) (by omega) ?_
  intro v1 w1 hown1 hgrow
  obtain ⟨g1, cap1, rfl⟩ := ownsRow_succ hown1
  have HBX := Lib.hid (((HB0.out.step hb).step ((Below.refl _ _).alloc (Nat.le_refl _) _)).step ((Below.refl _ _).grown hgrow (Nat.le_refl _) (fun _ e => by cases e)))
  have hq2 := blk_frozen HBX.out.box 1
  refine hK.out _ _ (HBX.out.cell) (fun hHeld => ?_)
  clear hK K
  refine norm_ (a' := ?_) ?_ ?_
  rotate_left
  · show Act.put _ (some 47) _ = _
    simp only [Act.put, List.setIfInBounds_toArray, List.set_cons_zero, List.set_cons_succ, i64_w, i32_w]
    rfl
  refine pure_ (i := 19) (N := some 48) (v := ?_) (a' := ?_) #[true, true, true, true, true, true, true, true, true, true, true, true, true, true, true, true, true, true, true, true, false] rfl rfl (by kernel_rfl) (fun _ _ _ h => h) (Or.inl ⟨by rfl, ?_⟩) ?_ ?_
  rotate_left
  · intro w'
    go_simp
    with_reducible rfl
  rotate_left
  · simp only [Act.put, List.setIfInBounds_toArray, List.set_cons_zero, List.set_cons_succ, i64_w, i32_w]
    rfl
  refine last_ (i := 20) (N := none) #[true, true, true, true, true, true, true, true, true, true, true, true, true, true, true, true, true, true, true, true, true] rfl rfl (by kernel_rfl) (by decide) (fun K hK => ?_)
  have hq1 := HBX.out.cell
  refine skip_ (w1 := ?_) (by rfl) rfl ?_ ?_
  rotate_left
  · go_simp
    rfl
  refine hK.out _ _ ?_
  clear hK K
  refine done_ (by kernel_rfl) ?_
  have q0 := blk_cell HBX.out.box 0; have q2 := blk_cell HBX.out.box 2
  have r0 := blk_cell HBX.out.out 0; have r1 := blk_cell HBX.out.out 1; have r2 := blk_cell HBX.out.out 2
  simp only [List.getElem?_toArray, List.getElem?_cons_zero, List.getElem?_cons_succ] at q0 q2 r0 r1 r2
  have f0 := blk_frozen HBX.out.out 0; have f1 := blk_frozen HBX.out.out 1; have f2 := blk_frozen HBX.out.out 2
  have HO1 := Lib.hid hown1; have HG := Lib.hid hgrow; have HB := Lib.hid hb
  clear hown1 hgrow hb
  go_wp2_with fail
  refine bodyPost_ret (v := .tuple #[.agg #[.slice A0_0 n0 c0_0, .slice (some ⟨g1, 0, none⟩) (l0_1.length + 1) cap1, .bool false], .int .i64 0]) (by simp [results, Try.results50, go_sem, r0, r1, r2]) rfl ⟨_, rfl, ?_, ?_⟩
  · have hR : Kd.R k88 88 w1 (w3.alloc (.cells #[.int .i64 at_, .string (s ++ Z)] 88)).heap.size (fun k => (w3.alloc (.cells #[.int .i64 at_, .string (s ++ Z)] 88)).heap.size ≤ k) (.slice (some ⟨g1, 0, none⟩) (l0_1.length + 1) cap1) (l0_1 ++ [⟨at_, s ++ Z⟩]) := by
      refine R_of_rows ?_
      have h := HO1.out
      rw [show flatP l0_1 ++ [.int .i64 at_, .string (s ++ Z)] = flatP (l0_1 ++ [⟨at_, s ++ Z⟩]) by simp [flatP]] at h
      rw [List.length_append]
      exact h
    have hl2 : w.heap.size + 1 < (w3.alloc (.cells #[.int .i64 at_, .string (s ++ Z)] 88)).heap.size := by rw [World.size_alloc]; omega
    exact Kd.R_mono (Kd.R_lower (Kd.R_far (Kd.R_far (Kd.R_far (Kd.R_far hR (fun k hk => by show k ≠ w.heap.size; omega) _) (fun k hk => by show k ≠ w.heap.size + 1; omega) _) (fun k hk => by show k ≠ w.heap.size + 1; omega) _) (fun k hk => by show k ≠ w.heap.size + 1; omega) _) (by omega)) (fun _ _ => trivial)
  · exact (((HBX.out.below.setCell (p := ⟨w.heap.size, 1, none⟩) (Nat.le_refl _) _).setCell (p := ⟨w.heap.size + 1, 0, none⟩) (show w.heap.size ≤ w.heap.size + 1 by omega) _).setCell (p := ⟨w.heap.size + 1, 1, none⟩) (show w.heap.size ≤ w.heap.size + 1 by omega) _).setCell (p := ⟨w.heap.size + 1, 2, none⟩) (show w.heap.size ≤ w.heap.size + 1 by omega) _
/-- What Write answers. -/
def writeR (l0 : List ByteArray) (l1 : List S88) (off : Bool) (at_ : Int) (s : ByteArray) : List ByteArray × List S88 × Bool × Int :=
  if off = true then (l0, l1, off, 19) else if at_ < 0 ∨ (l0.length : Int) ≤ at_ then (l0, l1, off, 6) else if 64 < s.size then (l0, l1, off, 5) else (l0, l1 ++ [⟨at_, fillS s⟩], off, 0)
def disk_Write.f (l0_0 : List ByteArray) (l0_1 : List S88) (a0_2 : Bool) (a1 : Int) (a2 : ByteArray) : Option (List ByteArray × List S88 × Bool × Int) := if l0_1.length ≤ 1000000000 then some (writeR l0_0 l0_1 a0_2 a1 a2) else none
set_option maxRecDepth 100000 in
set_option maxHeartbeats 1000000 in
theorem write_off (A0_0 : Option Addr) (c0_0 n0 : Nat) (A0_1 : Option Addr) (c0_1 n1 : Nat) (at_ : Int) (s : ByteArray) (w : World) :
    Calls Try.prog 50 #[.agg #[.slice A0_0 n0 c0_0, .slice A0_1 n1 c0_1, .bool true], .int .i64 at_, .string s] w fun e w' => e = .returned (.tuple #[.agg #[.slice A0_0 n0 c0_0, .slice A0_1 n1 c0_1, .bool true], .int .i64 19]) ∧ Below w.heap.size w w' := by
  go_enter Try.func50, Try.ntmps50
  go_wp2_with fail
  refine bodyPost_ret (v := .tuple #[.agg #[.slice A0_0 n0 c0_0, .slice A0_1 n1 c0_1, .bool true], .int .i64 19]) (by simp [results, Try.results50, go_sem]) rfl ⟨rfl, ?_⟩
  exact ((Below.refl _ w).alloc (Nat.le_refl _) _).alloc (by rw [World.size_alloc]; omega) _
set_option maxRecDepth 100000 in
set_option maxHeartbeats 1000000 in
theorem write_low (A0_0 : Option Addr) (c0_0 n0 : Nat) (A0_1 : Option Addr) (c0_1 n1 : Nat) (at_ : Int) (s : ByteArray) (w : World) (h : at_ < 0) :
    Calls Try.prog 50 #[.agg #[.slice A0_0 n0 c0_0, .slice A0_1 n1 c0_1, .bool false], .int .i64 at_, .string s] w fun e w' => e = .returned (.tuple #[.agg #[.slice A0_0 n0 c0_0, .slice A0_1 n1 c0_1, .bool false], .int .i64 6]) ∧ Below w.heap.size w w' := by
  have hd1 : decide (at_ < 0) = true := decide_eq_true h
  go_enter Try.func50, Try.ntmps50
  go_wp2_with fail
  refine bodyPost_ret (v := .tuple #[.agg #[.slice A0_0 n0 c0_0, .slice A0_1 n1 c0_1, .bool false], .int .i64 6]) (by simp [results, Try.results50, go_sem]) rfl ⟨rfl, ?_⟩
  exact ((Below.refl _ w).alloc (Nat.le_refl _) _).alloc (by rw [World.size_alloc]; omega) _
set_option maxRecDepth 100000 in
set_option maxHeartbeats 1000000 in
theorem write_high (A0_0 : Option Addr) (c0_0 n0 : Nat) (A0_1 : Option Addr) (c0_1 n1 : Nat) (at_ : Int) (s : ByteArray) (w : World) (h0 : 0 ≤ at_) (h : (n0 : Int) ≤ at_) :
    Calls Try.prog 50 #[.agg #[.slice A0_0 n0 c0_0, .slice A0_1 n1 c0_1, .bool false], .int .i64 at_, .string s] w fun e w' => e = .returned (.tuple #[.agg #[.slice A0_0 n0 c0_0, .slice A0_1 n1 c0_1, .bool false], .int .i64 6]) ∧ Below w.heap.size w w' := by
  have hd1 : decide (at_ < 0) = false := decide_eq_false (by omega)
  have hd2 : decide ((n0 : Int) ≤ at_) = true := decide_eq_true h
  go_enter Try.func50, Try.ntmps50
  go_wp2_with fail
  refine bodyPost_ret (v := .tuple #[.agg #[.slice A0_0 n0 c0_0, .slice A0_1 n1 c0_1, .bool false], .int .i64 6]) (by simp [results, Try.results50, go_sem]) rfl ⟨rfl, ?_⟩
  exact ((Below.refl _ w).alloc (Nat.le_refl _) _).alloc (by rw [World.size_alloc]; omega) _
set_option maxRecDepth 100000 in
set_option maxHeartbeats 1000000 in
theorem write_big (A0_0 : Option Addr) (c0_0 n0 : Nat) (A0_1 : Option Addr) (c0_1 n1 : Nat) (at_ : Int) (s : ByteArray) (w : World) (h0 : 0 ≤ at_) (h1 : at_ < n0) (h : 64 < s.size) :
    Calls Try.prog 50 #[.agg #[.slice A0_0 n0 c0_0, .slice A0_1 n1 c0_1, .bool false], .int .i64 at_, .string s] w fun e w' => e = .returned (.tuple #[.agg #[.slice A0_0 n0 c0_0, .slice A0_1 n1 c0_1, .bool false], .int .i64 5]) ∧ Below w.heap.size w w' := by
  have hd1 : decide (at_ < 0) = false := decide_eq_false (by omega)
  have hd2 : decide ((n0 : Int) ≤ at_) = false := decide_eq_false (by omega)
  have hd3 : decide (64 < s.size) = true := decide_eq_true h
  have hd4 : (64 : Int) < (s.size : Int) := by omega
  go_enter Try.func50, Try.ntmps50
  go_wp2_with fail
  refine bodyPost_ret (v := .tuple #[.agg #[.slice A0_0 n0 c0_0, .slice A0_1 n1 c0_1, .bool false], .int .i64 5]) (by simp [results, Try.results50, go_sem]) rfl ⟨rfl, ?_⟩
  exact ((Below.refl _ w).alloc (Nat.le_refl _) _).alloc (by rw [World.size_alloc]; omega) _
theorem disk_Write.calls (P0_0_ : Nat → Prop) (A0_0 : Option Addr) (c0_0 : Nat) (l0_0 : List ByteArray) (P0_1_ : Nat → Prop) (A0_1 : Option Addr) (c0_1 : Nat) (l0_1 : List S88) (a0_2 : Bool) (a1 : Int) (a2 : ByteArray) (r1 : List ByteArray) (r2 : List S88) (r3 : Bool) (r4 : Int) (w : World) (hs0_0 : Kd.V Kd.string 9 w w.heap.size (fun k_ => P0_0_ k_) (.slice A0_0 l0_0.length c0_0) l0_0) (hs0_1 : Kd.V k88 88 w w.heap.size (fun k_ => P0_1_ k_) (.slice A0_1 l0_1.length c0_1) l0_1) (h : disk_Write.f l0_0 l0_1 a0_2 a1 a2 = some (r1, r2, r3, r4)) :
    Calls Try.prog 50 #[.agg #[.slice A0_0 l0_0.length c0_0, .slice A0_1 l0_1.length c0_1, .bool a0_2], .int .i64 a1, .string a2] w fun e w' => ∃ v0_ v1_ : Value, e = .returned (.tuple #[.agg #[v0_, v1_, .bool r3], .int .i64 r4]) ∧ Kd.V Kd.string 9 w' w.heap.size (fun k_ => ((P0_0_ k_ ∨ P0_1_ k_) ∨ w.heap.size ≤ k_)) v0_ r1 ∧ Kd.V k88 88 w' w.heap.size (fun k_ => ((P0_0_ k_ ∨ P0_1_ k_) ∨ w.heap.size ≤ k_)) v1_ r2 ∧ Below w.heap.size w w' := by
  unfold disk_Write.f at h
  split at h
  · rename_i hh
    have h2 := Option.some.inj h
    clear h
    have give : ∀ (code : Int), (r1, r2, r3, r4) = (l0_0, l0_1, a0_2, code) → ∀ e w', (e = Ending.returned (.tuple #[.agg #[.slice A0_0 l0_0.length c0_0, .slice A0_1 l0_1.length c0_1, .bool a0_2], .int .i64 code]) ∧ Below w.heap.size w w') →
        ∃ v0_ v1_ : Value, e = .returned (.tuple #[.agg #[v0_, v1_, .bool r3], .int .i64 r4]) ∧ Kd.V Kd.string 9 w' w.heap.size (fun k_ => ((P0_0_ k_ ∨ P0_1_ k_) ∨ w.heap.size ≤ k_)) v0_ r1 ∧ Kd.V k88 88 w' w.heap.size (fun k_ => ((P0_0_ k_ ∨ P0_1_ k_) ∨ w.heap.size ≤ k_)) v1_ r2 ∧ Below w.heap.size w w' := by
      rintro code hc e w' ⟨rfl, hb⟩
      simp only [Prod.mk.injEq] at hc
      obtain ⟨rfl, rfl, rfl, rfl⟩ := hc
      exact ⟨_, _, rfl, Kd.V_mono (Kd.V_below hs0_0 hb) (fun _ hk => .inl (.inl hk)), Kd.V_mono (Kd.V_below hs0_1 hb) (fun _ hk => .inl (.inr hk)), hb⟩
    unfold writeR at h2
    by_cases hoff : a0_2 = true
    · rw [if_pos hoff] at h2
      subst hoff
      exact (write_off _ _ _ _ _ _ _ _ _).mono (give 19 h2.symm)
    · rw [if_neg hoff] at h2
      obtain rfl : a0_2 = false := by simpa using hoff
      by_cases ha : a1 < 0 ∨ (l0_0.length : Int) ≤ a1
      · rw [if_pos ha] at h2
        by_cases hlo : a1 < 0
        · exact (write_low _ _ _ _ _ _ _ _ _ hlo).mono (give 6 h2.symm)
        · exact (write_high _ _ _ _ _ _ _ _ _ (by omega) (by omega)).mono (give 6 h2.symm)
      · rw [if_neg ha] at h2
        by_cases hb : 64 < a2.size
        · rw [if_pos hb] at h2
          exact (write_big _ _ _ _ _ _ _ _ _ (by omega) (by omega) hb).mono (give 5 h2.symm)
        · rw [if_neg hb] at h2
          simp only [Prod.mk.injEq] at h2
          obtain ⟨rfl, rfl, rfl, rfl⟩ := h2
          have hr0 := Kd.V_reads' hs0_0
          have hr1 := Kd.V_reads' hs0_1
          refine (write_good A0_0 c0_0 l0_0.length A0_1 c0_1 l0_1 a1 a2 w (by omega) (by omega) (by omega) (Kd.C_max hr0.2.2) hh hr1.2.1 hr1.2.2).mono ?_
          rintro e w' ⟨v, rfl, hR, hb⟩
          obtain ⟨A, c, rfl⟩ := Kd.R_slice hR
          have hR2 := Kd.R_bound hR
          exact ⟨_, _, rfl, Kd.V_mono (Kd.V_below hs0_0 hb) (fun _ hk => .inl (.inl hk)), Kd.V_mk (Kd.R_reads' hR).2.1 (Kd.R_F (Kd.R_mono hR2 (fun k hk => .inr hk.2.1))), hb⟩
  · cases h
end Go.Proofs.Ytcbfnfggnocndaa.Q
end

section
/- What octet.Num comes to, for every number: its short number's bytes. (A loop by goto.) -/
set_option linter.unusedVariables false
set_option linter.unusedSimpArgs false
namespace Go.Proofs.Ytcbfnfggnocndaa
open Go.RowKit Go.Proofs.YtcbfnfggnocndaaW.PrintWords

/-- The short number's figures, the lowest first. -/
def numL (n : Nat) : List Int := if 128 ≤ n then ((n % 128 + 128 : Nat) : Int) :: numL (n / 128) else [(n : Int)]
termination_by n
theorem numL_lo {n : Nat} (h : ¬ 128 ≤ n) : numL n = [(n : Int)] := by rw [numL, if_neg h]
theorem numL_hi {n : Nat} (h : 128 ≤ n) : numL n = ((n % 128 + 128 : Nat) : Int) :: numL (n / 128) := by rw [numL, if_pos h]
theorem numL_len (k : Nat) : ∀ n : Nat, n < 128 ^ (k + 1) → (numL n).length ≤ k + 1 := by
  induction k with
  | zero => intro n h; rw [numL_lo (by simpa using h)]; simp
  | succ k ih =>
    intro n h
    by_cases h1 : 128 ≤ n
    · rw [numL_hi h1, List.length_cons]
      have := ih (n / 128) (by rw [Nat.div_lt_iff_lt_mul (by decide)]; rw [Nat.pow_succ] at h; exact h)
      omega
    · rw [numL_lo h1]; simp
theorem numL_len10 {n : Nat} (h : n < 18446744073709551616) : (numL n).length ≤ 10 := numL_len 9 n (Nat.lt_of_lt_of_le h (by decide))
theorem or128_all : ∀ x : Fin 256, x.val ||| 128 = x.val % 128 + 128 := by decide +kernel
theorem or128 (m : Nat) : Go.bits .or .u8 ((m : Int) % 256) 128 = ((m % 128 + 128 : Nat) : Int) := by
  rw [show ((m : Int) % 256) = ((m % 256 : Nat) : Int) from by omega]
  have h := u8_or_nat (m % 256) 128 (by omega) (by decide)
  rw [show ((128 : Nat) : Int) = 128 from rfl] at h
  rw [h]
  have h2 := or128_all ⟨m % 256, by omega⟩
  simp only at h2
  rw [h2]
  congr 1
  omega
def numS (n : Nat) : ByteArray := strOfNums (numL n)
def octet_Num.f (a0 : Int) : Option ByteArray := if 0 ≤ a0 ∧ a0 < 18446744073709551616 then some (numS a0.toNat) else none

theorem info5 : (Try.prog.info? 5).map (fun i => (i.zero, i.size, i.bytes)) = some (some (.int .u8 0), 1, 1) := by kernel_rfl

set_option maxHeartbeats 4000000 in
set_option maxRecDepth 1000000 in
theorem num_calls (n : Nat) (hn : n < 18446744073709551616) (w : World) :
    Calls Try.prog 54 #[.int .u64 n] w fun e w' => e = .returned (.string (numS n)) ∧ Below w.heap.size w w' := by
  have HL := Lib.hid (numL_len10 hn)
  go_enter Try.func54, Try.ntmps54
  go_wp2
  refine wp_scope_jumps 0 (fun a' w' => ∃ (m : Nat) (v : Value) (xs : List Int) (u4 u5 u6 u7 u8 u9 u10 u11 u12 u13 : Value), a' = { tmps := #[.int .u64 m, undef, .string { data := #[] }, v, u4, u5, u6, u7, u8, u9, u10, u11, u12, u13, undef, undef, undef, undef, undef, undef], defers := [] } ∧ m < 18446744073709551616 ∧ Hid (xs ++ numL m = numL n) ∧ Hid (w'.ownsRow w.heap.size 5 1 v xs.length (nums .u8 xs)) ∧ Hid (Below w.heap.size w w')) (fun a' _ => (intOf (a'.tmps.getD 0 undef)).toNat) rfl ?_ ?_
  · by_cases h : 128 ≤ n
    · have h0 : (128 : Int) ≤ (n : Int) := by omega
      have HO := Lib.hid (own_nil w w.heap.size 5 1)
      have HB := Lib.hid (Below.refl w.heap.size w)
      have HR := Lib.hid (or128 n)
      have HN := Lib.hid (numL_hi h)
      have HD : n / 128 < 18446744073709551616 := by omega
      go_wp2
      go_step3
      go_wp2_with (at_builtin; go_must (refine print_append_num (xs := []) w.heap.size rfl (.tmp 6) (.tmp 10) 71 5 .u8 1 rfl Try.underlying71 info5 (by decide) (.slice none 0 0) _ rfl rfl HO.out HB.out (Nat.le_refl _) (by simp) ?_); intro v1 w1 hown1 hb1 _ _; have HO1 := Lib.hid hown1; have HB1 := Lib.hid hb1; clear hown1 hb1)
      go_step3
      refine ⟨rfl, n / 128, v1, _, _, _, _, _, _, _, _, _, _, _, rfl, HD, Lib.hid ?_, HO1, HB1⟩
      rw [HN.out, HR.out]; rfl
    · have h0 : (n : Int) < 128 := by omega
      have HO := Lib.hid (own_nil w w.heap.size 5 1)
      have HB := Lib.hid (Below.refl w.heap.size w)
      have HN := Lib.hid (numL_lo h)
      have HM : (n : Int) % 256 = n := by omega
      go_wp2
      go_step3
      go_wp2_with (at_builtin; go_must (refine print_append_num (xs := []) w.heap.size rfl (.tmp 14) (.tmp 17) 71 5 .u8 1 rfl Try.underlying71 info5 (by decide) (.slice none 0 0) _ rfl rfl HO.out HB.out (Nat.le_refl _) (by simp) ?_); intro v1 w1 hown1 hb1 _ _; have hconv := own_string (P := Try.prog) (dst := 9) Try.underlying71 Try.underlying5 Try.underlying9 hown1; have HB1 := Lib.hid hb1; clear hown1 hb1)
      simp only [Exit.jump]
      go_ret
      refine ⟨?_, HB1.out⟩
      show Ending.returned (.string (strOfNums ([] ++ [(n : Int)]))) = _
      rw [← HN.out]; rfl
  · rintro a' W ⟨m, v, xs, u4, u5, u6, u7, u8, u9, u10, u11, u12, u13, rfl, hm, HX, HO, HB⟩
    have HL2 := Lib.hid (show xs.length + (numL m).length ≤ 10 by rw [← List.length_append, HX.out]; exact HL.out)
    by_cases h : 128 ≤ m
    · have h0 : (128 : Int) ≤ (m : Int) := by omega
      have HR := Lib.hid (or128 m)
      have HN := Lib.hid (numL_hi h)
      have HD : m / 128 < 18446744073709551616 := by omega
      go_wp2_with (at_builtin; go_must (refine print_append_num (xs := xs) w.heap.size rfl (.tmp 6) (.tmp 10) 71 5 .u8 1 rfl Try.underlying71 info5 (by decide) v _ rfl rfl HO.out HB.out HB.out.size (by have := HL2.out; omega) ?_); intro v1 w1 hown1 hb1 _ _; have HO1 := Lib.hid hown1; have HB1 := Lib.hid hb1; clear hown1 hb1)
      go_step3
      refine ⟨rfl, ⟨m / 128, v1, _, _, _, _, _, _, _, _, _, _, _, rfl, HD, Lib.hid ?_, HO1, HB1⟩, ?_⟩
      · rw [← HX.out, HN.out, HR.out, List.append_assoc]; rfl
      · simp [intOf]; omega
    · have h0 : (m : Int) < 128 := by omega
      have HN := Lib.hid (numL_lo h)
      have HM : (m : Int) % 256 = m := by omega
      go_wp2_with (at_builtin; go_must (refine print_append_num (xs := xs) w.heap.size rfl (.tmp 14) (.tmp 17) 71 5 .u8 1 rfl Try.underlying71 info5 (by decide) v _ rfl rfl HO.out HB.out HB.out.size (by have := HL2.out; omega) ?_); intro v1 w1 hown1 hb1 _ _; have hconv := own_string (P := Try.prog) (dst := 9) Try.underlying71 Try.underlying5 Try.underlying9 hown1; have HB1 := Lib.hid hb1; clear hown1 hb1)
      simp only [Exit.jump]
      go_ret
      refine ⟨?_, HB1.out⟩
      show Ending.returned (.string (strOfNums (xs ++ [(m : Int)]))) = _
      rw [← HN.out, HX.out]; rfl
theorem octet_Num.calls (a0 : Int) (r : ByteArray) (w : World) (h : octet_Num.f a0 = some r) :
    Calls Try.prog 54 #[.int .u64 a0] w fun e w' => e = .returned (.string r) ∧ Below w.heap.size w w' := by
  unfold octet_Num.f at h
  split at h
  · rename_i hh
    obtain rfl := Option.some.inj h
    obtain ⟨n, rfl⟩ := Int.eq_ofNat_of_zero_le hh.1
    rw [Int.toNat_natCast]
    exact num_calls n (by omega) w
  · cases h
end Go.Proofs.Ytcbfnfggnocndaa
end

section
/-
  DERIVED: THE SHELF's CONTRACTS AT THIS DUMP, IN PLAIN WORDS (tools/lay-plain.mjs out of 'TryShelf.lean', which tools/lay-shelf.mjs wrote): THE SAME DECLARATIONS UNDER THE SAME NAMES: 'import', 'namespace', 'open', 'def', 'theorem' AND NOTHING ELSE: no command of the shelf's: FOR A HAND-IN. Each laying: the table of numbers ('.._ren') and one theorem, a field a fact of the dump's own or the kernel's comparison; each contract: ONE APPLICATION.
-/
namespace Go.Proofs
open Go.Shelf
def Try.lays169_ren : Go.Shelf.Ren := ⟨fun | 169 => 74 | n => n, fun | 70 => 115 | 9 => 9 | 0 => 0 | 72 => 117 | 37 => 71 | 127 => 130 | 3 => 3 | 5 => 5 | n => n, fun | n => n⟩
theorem Try.lays169 : Go.Proofs.Lays.n169 Try.prog Try.lays169_ren := {
  mixed := by kernel_rfl
  f169 := Try.func74.trans (congrArg some (by kernel_rfl))
  t0 := Try.underlying0
  a0 := Try.isAgg0
  z0 := Try.sizeOf0
  v0 := Try.zeroValue0
  t3 := Try.underlying3
  a3 := Try.isAgg3
  z3 := Try.sizeOf3
  v3 := Try.zeroValue3
  t9 := Try.underlying9
  a9 := Try.isAgg9
  z9 := Try.sizeOf9
  v9 := Try.zeroValue9
  t37 := Try.underlying71
  a37 := Try.isAgg71
  z37 := Try.sizeOf71
  v37 := Try.zeroValue71
  t70 := Try.underlying115
  a70 := Try.isAgg115
  z70 := Try.sizeOf115
  v70 := Try.zeroValue115
  t72 := Try.underlying117
  a72 := Try.isAgg117
  z72 := Try.sizeOf117
  v72 := Try.zeroValue117
  t127 := Try.underlying130
  a127 := Try.isAgg130
  z127 := Try.sizeOf130
  v127 := Try.zeroValue130 }
theorem Try.Builder_Extra_169 : Builder.Extra Try.prog Try.lays169_ren := {
  sizeBuilder := by kernel_rfl
  liesBuilder := by kernel_rfl
  t5 := Try.underlying5
  a5 := Try.isAgg5
  z5 := Try.sizeOf5
  v5 := Try.zeroValue5
  infoByte := by kernel_rfl
  cellsByte := by kernel_rfl
  sizeByte := by kernel_rfl
  neB5 := by decide }
open Go.RowKit in
/-- (*strings.Builder).String: "String returns the accumulated string.": WHATEVER THE BUILDER HOLDS. (LAID: no walk: one application.) -/
theorem Try.Builder_String_any (B b : Nat) (l : List UInt8) (w : World) (h : Lib.IsBuilder 117 5 B b (Lib.byteCells l) w) (hBw : B ≤ w.heap.size) :
    Calls Try.prog 74 #[.pointer (some ⟨b, 0, none⟩)] w fun e w' => e = .returned (.string ⟨l.toArray⟩) ∧ Below B w w' := Any.Builder_String_any Try.lays169 Try.Builder_Extra_169 B b l w h hBw
def Try.lays156_ren : Go.Shelf.Ren := ⟨fun | 156 => 63 | 165 => 72 | 166 => 73 | 169 => 74 | 240 => 79 | 241 => 80 | 276 => 82 | 277 => 83 | n => n, fun | 31 => 22 | 9 => 9 | 3 => 3 | 4 => 4 | 0 => 0 | 20 => 20 | 72 => 117 | 76 => 121 | 70 => 115 | 37 => 71 | 75 => 120 | 127 => 130 | 164 => 132 | 5 => 5 | 80 => 123 | n => n, fun | n => n⟩
theorem Try.lays156 : Go.Proofs.Lays.n156 Try.prog Try.lays156_ren := {
  mixed := by kernel_rfl
  f156 := Try.func63.trans (congrArg some (by kernel_rfl))
  f165 := Try.func72.trans (congrArg some (by kernel_rfl))
  f166 := Try.func73.trans (congrArg some (by kernel_rfl))
  f169 := Try.func74.trans (congrArg some (by kernel_rfl))
  f240 := Try.func79.trans (congrArg some (by kernel_rfl))
  f241 := Try.func80.trans (congrArg some (by kernel_rfl))
  f276 := Try.func82.trans (congrArg some (by kernel_rfl))
  f277 := Try.func83.trans (congrArg some (by kernel_rfl))
  t0 := Try.underlying0
  a0 := Try.isAgg0
  z0 := Try.sizeOf0
  v0 := Try.zeroValue0
  t3 := Try.underlying3
  a3 := Try.isAgg3
  z3 := Try.sizeOf3
  v3 := Try.zeroValue3
  t4 := Try.underlying4
  a4 := Try.isAgg4
  z4 := Try.sizeOf4
  v4 := Try.zeroValue4
  t9 := Try.underlying9
  a9 := Try.isAgg9
  z9 := Try.sizeOf9
  v9 := Try.zeroValue9
  t20 := Try.underlying20
  a20 := Try.isAgg20
  z20 := Try.sizeOf20
  v20 := Try.zeroValue20
  t31 := Try.underlying22
  a31 := Try.isAgg22
  z31 := Try.sizeOf22
  v31 := Try.zeroValue22
  t37 := Try.underlying71
  a37 := Try.isAgg71
  z37 := Try.sizeOf71
  v37 := Try.zeroValue71
  t70 := Try.underlying115
  a70 := Try.isAgg115
  z70 := Try.sizeOf115
  v70 := Try.zeroValue115
  t72 := Try.underlying117
  a72 := Try.isAgg117
  z72 := Try.sizeOf117
  v72 := Try.zeroValue117
  t75 := Try.underlying120
  a75 := Try.isAgg120
  z75 := Try.sizeOf120
  v75 := Try.zeroValue120
  t76 := Try.underlying121
  a76 := Try.isAgg121
  z76 := Try.sizeOf121
  v76 := Try.zeroValue121
  t127 := Try.underlying130
  a127 := Try.isAgg130
  z127 := Try.sizeOf130
  v127 := Try.zeroValue130
  t164 := Try.underlying132
  a164 := Try.isAgg132
  z164 := Try.sizeOf132
  v164 := Try.zeroValue132 }
theorem Try.Builder_Extra_156 : Builder.Extra Try.prog Try.lays156_ren := {
  sizeBuilder := by kernel_rfl
  liesBuilder := by kernel_rfl
  t5 := Try.underlying5
  a5 := Try.isAgg5
  z5 := Try.sizeOf5
  v5 := Try.zeroValue5
  infoByte := by kernel_rfl
  cellsByte := by kernel_rfl
  sizeByte := by kernel_rfl
  neB5 := by decide }
open Go.RowKit in
/-- strings.Join: "Join concatenates the elements of its first argument to create a single string. The separator string sep is placed between elements in the resulting string.": HOWEVER MANY ELEMENTS. Below the heap's end the world is as it was. (LAID: no walk: one application.) -/
theorem Try.strings_Join (bk o c : Nat) (xs : List ByteArray) (sep : ByteArray) (w : World) (hcells : ∀ (j : Nat) x, xs[j]? = some x → w.cell? ⟨bk, o + j, none⟩ = some (.string x)) (hbk : bk < w.heap.size) (hN : xs.length ≤ 140737488355328) (hcap : xs.length ≤ c) (hlen : (Lib.join (xs.map (·.data.toList)) sep.data.toList).length ≤ 140737488355328) :
    Calls Try.prog 63 #[.slice (some ⟨bk, o, none⟩) xs.length c, .string sep] w fun e w' => e = .returned (.string ⟨(Lib.join (xs.map (·.data.toList)) sep.data.toList).toArray⟩) ∧ Below w.heap.size w w' := Any.strings_Join Try.lays156 Try.Builder_Extra_156 bk o c xs sep w hcells hbk hN hcap hlen
def Try.lays206_ren : Go.Shelf.Ren := ⟨fun | 206 => 75 | n => n, fun | 9 => 9 | 4 => 4 | 3 => 3 | n => n, fun | n => n⟩
theorem Try.lays206 : Go.Proofs.Lays.n206 Try.prog Try.lays206_ren := {
  mixed := by kernel_rfl
  f206 := Try.func75.trans (congrArg some (by kernel_rfl))
  t3 := Try.underlying3
  a3 := Try.isAgg3
  z3 := Try.sizeOf3
  v3 := Try.zeroValue3
  t4 := Try.underlying4
  a4 := Try.isAgg4
  z4 := Try.sizeOf4
  v4 := Try.zeroValue4
  t9 := Try.underlying9
  a9 := Try.isAgg9
  z9 := Try.sizeOf9
  v9 := Try.zeroValue9 }
open Go.RowKit Go.Lib in
/-- internal/stringslite.HasPrefix (what strings.HasPrefix calls). (LAID: no walk: one application.) -/
theorem Try.stringslite_HasPrefix (s p : ByteArray) (w : World) :
    Calls Try.prog 75 #[.string s, .string p] w fun e w' => e = .returned (.bool (Lib.hasPrefix s.data.toList p.data.toList)) ∧ w' = w := Any.stringslite_HasPrefix Try.lays206 s p w
def Try.lays99_ren : Go.Shelf.Ren := ⟨fun | 99 => 65 | 206 => 75 | n => n, fun | 9 => 9 | 4 => 4 | 3 => 3 | n => n, fun | n => n⟩
theorem Try.lays99 : Go.Proofs.Lays.n99 Try.prog Try.lays99_ren := {
  mixed := by kernel_rfl
  f99 := Try.func65.trans (congrArg some (by kernel_rfl))
  f206 := Try.func75.trans (congrArg some (by kernel_rfl))
  t3 := Try.underlying3
  a3 := Try.isAgg3
  z3 := Try.sizeOf3
  v3 := Try.zeroValue3
  t4 := Try.underlying4
  a4 := Try.isAgg4
  z4 := Try.sizeOf4
  v4 := Try.zeroValue4
  t9 := Try.underlying9
  a9 := Try.isAgg9
  z9 := Try.sizeOf9
  v9 := Try.zeroValue9 }
open Go.RowKit Go.Lib in
/-- strings.HasPrefix: "HasPrefix reports whether the string s begins with prefix.": IT RETURNS 'Lib.hasPrefix s prefix'; the world is as it was. (LAID: no walk: one application.) -/
theorem Try.strings_HasPrefix (s p : ByteArray) (w : World) :
    Calls Try.prog 65 #[.string s, .string p] w fun e w' => e = .returned (.bool (Lib.hasPrefix s.data.toList p.data.toList)) ∧ w' = w := Any.strings_HasPrefix Try.lays99 s p w
end Go.Proofs
end

section
/- What octet.joined, octet.Text and octet.List come to: texts one behind the other, their lengths ahead. -/
set_option linter.unusedVariables false
set_option linter.unusedSimpArgs false
namespace Go.Proofs.Ytcbfnfggnocndaa
open Go.RowKit Go.Proofs.YtcbfnfggnocndaaW.PrintWords Math

def flat (xs : List ByteArray) : List UInt8 := (xs.map (·.data.toList)).flatten
def joinS (xs : List ByteArray) : ByteArray := ⟨(flat xs).toArray⟩
theorem join_flat (xs : List (List UInt8)) : Lib.join xs [] = xs.flatten := by
  cases xs with
  | nil => rfl
  | cons x r => rw [Lib.join_cons, Lib.joinTail, List.flatten_cons]; simp
theorem ret_str {a b : ByteArray} (h : a = b) : Ending.returned (.string a) = .returned (.string b) := by rw [h]
theorem joined_calls (bk o c : Nat) (xs : List ByteArray) (w : World)
    (hcells : ∀ (j : Nat) x, xs[j]? = some x → w.cell? ⟨bk, o + j, none⟩ = some (.string x))
    (hbk : bk < w.heap.size) (hN : xs.length ≤ 140737488355328) (hcap : xs.length ≤ c) (hlen : (flat xs).length ≤ 140737488355328) :
    Calls Try.prog 53 #[.slice (some ⟨bk, o, none⟩) xs.length c] w fun e w' => e = .returned (.string (joinS xs)) ∧ Below w.heap.size w w' := by
  have HC := Lib.hid hcells
  have HJ := Lib.hid (Try.strings_Join bk o c xs ⟨#[]⟩ w hcells hbk hN hcap (by rw [show (⟨#[]⟩ : ByteArray).data.toList = [] from rfl, join_flat]; exact hlen))
  clear hcells
  go_enter Try.func53, Try.ntmps53
  go_wp2_with fail
  refine (HJ.out).mono ?_
  rintro e w' ⟨rfl, hb⟩
  have HB := Lib.hid hb
  clear hb
  go_wp2
  go_ret
  exact ⟨ret_str (by rw [join_flat]; rfl), HB.out⟩
theorem numS_size (n : Nat) : (numS n).size = (numL n).length := by unfold numS; rw [nums_size]
theorem numS_size10 {n : Nat} (h : n < 18446744073709551616) : (numS n).size ≤ 10 := by rw [numS_size]; exact numL_len10 h

def textS (s : ByteArray) : ByteArray := numS s.size ++ s
theorem textS_two (s : ByteArray) : joinS [numS s.size, s] = textS s := by
  apply inj
  rw [textS, app]
  simp [joinS, flat]
def octet_Text.f (a0 : ByteArray) : Option ByteArray := if a0.size ≤ 140737488355000 then some (textS a0) else none
set_option maxHeartbeats 4000000 in
set_option maxRecDepth 1000000 in
theorem text_calls (s : ByteArray) (hs : s.size ≤ 140737488355000) (w : World) :
    Calls Try.prog 36 #[.string s] w fun e w' => e = .returned (.string (textS s)) ∧ Below w.heap.size w w' := by
  have hm : (s.size : Int) % 18446744073709551616 = s.size := by omega
  have HN := Lib.hid (numS_size10 (n := s.size) (by omega))
  go_enter Try.func36, Try.ntmps36
  go_wp2_with fail
  refine (num_calls s.size (by omega) _).mono ?_
  rintro e w1 ⟨rfl, hb⟩
  have HB := Lib.hid hb
  have hbs := hb.size
  clear hb hm
  go_wp2_with fail
  refine (joined_calls w1.heap.size 0 2 [numS s.size, s] _ ?_ (by simp) (by simp) (by simp) ?_).mono ?_
  · intro j x hj
    match j, hj with
    | 0, hj => simp at hj; subst hj; rw [cell_of_row _ w1.heap.size (0 + 0) _ _ (0, 0) (heap_alloc_new w1 _)]; rfl
    | 1, hj => simp at hj; subst hj; rw [cell_of_row _ w1.heap.size (0 + 1) _ _ (0, 0) (heap_alloc_new w1 _)]; rfl
    | j + 2, hj => simp at hj
  · have := HN.out
    simp only [flat, List.map_cons, List.map_nil, List.flatten_cons, List.flatten_nil, List.append_nil, List.length_append]
    rw [← sz, ← sz]; omega
  rintro e w2 ⟨rfl, hb2⟩
  have HB2 := Lib.hid hb2
  clear hb2
  go_wp2
  go_ret
  refine ⟨ret_str (textS_two s), ?_⟩
  exact below_then (HB.out.alloc HB.out.size _) (by simp; omega) HB2.out
theorem octet_Text.calls (a0 : ByteArray) (r : ByteArray) (w : World) (h : octet_Text.f a0 = some r) :
    Calls Try.prog 36 #[.string a0] w fun e w' => e = .returned (.string r) ∧ Below w.heap.size w w' := by
  unfold octet_Text.f at h
  split at h
  · rename_i hh
    obtain rfl := Option.some.inj h
    exact text_calls a0 hh w
  · cases h
end Go.Proofs.Ytcbfnfggnocndaa
end

section
/- What octet.List comes to: how many texts there are, and each one's Text. -/
set_option linter.unusedVariables false
set_option linter.unusedSimpArgs false
namespace Go.Proofs.Ytcbfnfggnocndaa
open Go.RowKit Go.Proofs.YtcbfnfggnocndaaW.PrintWords Math

/-- What List joins, i texts laid. -/
def listP (l : List ByteArray) (i : Nat) : List ByteArray := numS l.length :: (l.take i).map textS
def listS (l : List ByteArray) : ByteArray := joinS (listP l l.length)
theorem info9 : (Try.prog.info? 9).map (fun i => (i.zero, i.size, i.bytes)) = some (some (.string ⟨#[]⟩), 1, 16) := by kernel_rfl
/-- The lengths, added up. -/
def lensS (l : List ByteArray) : Nat := (l.map fun s => s.size + 20).sum
def octet_List.f (l0 : List ByteArray) : Option ByteArray := if lensS l0 ≤ 140737488355000 then some (listS l0) else none
end Go.Proofs.Ytcbfnfggnocndaa
end

section
/- What octet.TakeNum and octet.TakeText come to, in closed form. -/
set_option linter.unusedVariables false
set_option linter.unusedSimpArgs false
namespace Go.Proofs.Ytcbfnfggnocndaa
open Go.RowKit Go.Proofs.YtcbfnfggnocndaaW.PrintWords Go.Proofs.YtcbfnfggnocndaaW.PrintLast Go.Proofs.YtcbfnfggnocndaaW.PrintMore Math

/-- Taken from the figure at 'at_' on, acc being taken. -/
def takeN : Nat → Nat → List UInt8 → Nat × List UInt8 × Int
  | at_, _, [] => (0, [], if at_ = 10 then 3 else 2)
  | at_, acc, c :: r =>
    if at_ = 10 then (0, [], 3)
    else if c.toNat < 128 then (if (1 ≤ at_ ∧ c.toNat = 0) ∨ (at_ = 9 ∧ 1 < c.toNat) then (0, [], 3) else (acc + c.toNat * 2 ^ (7 * at_), r, 0))
    else takeN (at_ + 1) (acc + c.toNat % 128 * 2 ^ (7 * at_)) r
def outN (p : Nat × List UInt8 × Int) : Int × ByteArray × Int := ((p.1 : Int), ⟨p.2.1.toArray⟩, p.2.2)
def takeNumS (s : ByteArray) : Int × ByteArray × Int := outN (takeN 0 0 s.data.toList)
theorem bt_at_ (s : ByteArray) (i : Nat) (h : i < s.data.toList.length) : bt s (i : Int) = ((s.data.toList[i]).toNat : Int) := by
  unfold bt
  rw [dif_pos (by rw [Int.toNat_natCast, sz]; exact h)]
  simp only [Int.toNat_natCast]
  rfl
theorem drop_bytes (s : ByteArray) (i : Nat) : s.extract i s.size = ⟨(s.data.toList.drop i).toArray⟩ := by
  apply inj
  rw [ext_, List.take_of_length_le (by rw [← sz]; exact Nat.le_refl _)]
theorem and127 (c : UInt8) : IntKind.u64.wrap (Go.bits .and .u8 (c.toNat : Int) 127) = ((c.toNat % 128 : Nat) : Int) := by
  have hc := c.toNat_lt
  have h := u8_and_nat c.toNat 127 hc (by decide)
  rw [nat_mask7] at h
  rw [show ((127 : Nat) : Int) = 127 from rfl] at h
  rw [h, IntKind.wrap_u64]
  omega
theorem or_shl {acc x a : Nat} (ha : acc < 2 ^ (7 * a)) (hx : x * 2 ^ (7 * a) < 18446744073709551616) (ha9 : a ≤ 9) :
    Go.bits .or .u64 (acc : Int) (shl .u64 (x : Int) (wrap64 (7 * (a : Int)))) = ((acc + x * 2 ^ (7 * a) : Nat) : Int) := by
  have e : shl .u64 (x : Int) (wrap64 (7 * (a : Int))) = ((x * 2 ^ (7 * a) : Nat) : Int) := by
    unfold shl
    rw [w64 (by omega) (by omega), show (7 * (a : Int)).toNat = 7 * a from by omega, show min (7 * a) IntKind.u64.bits = 7 * a from by (have : IntKind.u64.bits = 64 := rfl); omega, IntKind.wrap_u64]
    have : ((x : Int) * 2 ^ (7 * a)) = ((x * 2 ^ (7 * a) : Nat) : Int) := by push_cast; rfl
    rw [this]; omega
  have hlt : 2 ^ (7 * a) ≤ 2 ^ 63 := Nat.pow_le_pow_right (by decide) (by omega)
  rw [e, u64_or_nat _ _ (by omega) hx, Nat.or_comm, Nat.mul_comm x, ← Nat.two_pow_add_eq_or_of_lt ha, Nat.add_comm]
theorem l0_ten (s : ByteArray) (hs : 10 ≤ s.size) (k : Nat) (acc : Int) : T.octet_TakeNum.l0 (k + 2) s acc 10 = some (0, ⟨#[]⟩, 3) := by
  simp only [T.octet_TakeNum.l0, T.octet_TakeNum.j1]
  by_cases h : (10 : Int) < (s.size : Int)
  · rw [if_pos h, if_neg (by decide), if_pos trivial]
  · rw [if_neg h, if_neg (by decide), if_pos trivial]
theorem tk_bad {a acc : Nat} {c : UInt8} {r : List UInt8} (ha : a ≤ 9) (hc : c.toNat < 128) (h : (1 ≤ a ∧ c.toNat = 0) ∨ (a = 9 ∧ 1 < c.toNat)) : takeN a acc (c :: r) = (0, [], 3) := by
  rw [takeN, if_neg (by omega), if_pos hc, if_pos h]
theorem tk_ok {a acc : Nat} {c : UInt8} {r : List UInt8} (ha : a ≤ 9) (hc : c.toNat < 128) (h : ¬((1 ≤ a ∧ c.toNat = 0) ∨ (a = 9 ∧ 1 < c.toNat))) : takeN a acc (c :: r) = (acc + c.toNat * 2 ^ (7 * a), r, 0) := by
  rw [takeN, if_neg (by omega), if_pos hc, if_neg h]
theorem tk_go {a acc : Nat} {c : UInt8} {r : List UInt8} (ha : a ≤ 9) (hc : ¬ c.toNat < 128) : takeN a acc (c :: r) = takeN (a + 1) (acc + c.toNat % 128 * 2 ^ (7 * a)) r := by
  rw [takeN, if_neg (by omega), if_neg hc]
theorem l0_eq (s : ByteArray) (hs : s.size ≤ 9223372036854775807) (d : Nat) : ∀ (a k acc : Nat), a + d = 10 → a ≤ s.size → acc < 2 ^ (7 * a) →
    T.octet_TakeNum.l0 (k + 2 * d + 2) s (acc : Int) (a : Int) = some (outN (takeN a acc (s.data.toList.drop a))) := by
  induction d with
  | zero =>
    intro a k acc ha hsz hacc
    obtain rfl : a = 10 := by omega
    have h := l0_ten s hsz k acc
    rw [show k + 2 * 0 + 2 = k + 2 from by omega, show ((10 : Nat) : Int) = 10 from rfl, h]
    cases hd : s.data.toList.drop 10 with
    | nil => rfl
    | cons c r => rfl
  | succ d ih =>
    intro a k acc ha hsz hacc
    rw [show k + 2 * (d + 1) + 2 = (k + 2 * d + 2) + 1 + 1 from by omega]
    generalize hK : k + 2 * d + 2 = K
    simp only [T.octet_TakeNum.l0, T.octet_TakeNum.j1]
    by_cases hlt : a < s.size
    · have hl : a < s.data.toList.length := by rw [← sz]; exact hlt
      rw [if_pos (by omega), if_pos (decide_eq_true (by omega)), if_pos (by omega), if_pos (by omega), if_pos (by rw [w64 (by omega) (by omega)]; omega)]
      rw [bt_at_ s a hl, List.drop_eq_getElem_cons hl, w64 (n := (a : Int) + 1) (by omega) (by omega)]
      generalize s.data.toList[a] = c
      have hc := c.toNat_lt
      have ha9 : a ≤ 9 := by omega
      rw [and127]
      by_cases hc1 : c.toNat < 128
      · rw [if_pos (by omega)]
        have e1 : ((a : Int) + 1).toNat = a + 1 := by omega
        have fin : ∀ (_ : ¬((1 ≤ a ∧ c.toNat = 0) ∨ (a = 9 ∧ 1 < c.toNat))), (some (Go.bits .or .u64 (acc : Int) (shl .u64 ((c.toNat % 128 : Nat) : Int) (wrap64 (7 * (a : Int)))), s.extract ((a : Int) + 1).toNat s.size, (0 : Int)) : Option (Int × ByteArray × Int)) = some (outN (takeN a acc (c :: s.data.toList.drop (a + 1)))) := by
          intro hn
          have hx : c.toNat % 128 * 2 ^ (7 * a) < 18446744073709551616 := by
            rw [Nat.mod_eq_of_lt hc1]
            by_cases h9 : a = 9
            · subst h9
              have : c.toNat ≤ 1 := by omega
              calc c.toNat * 2 ^ (7 * 9) ≤ 1 * 2 ^ (7 * 9) := Nat.mul_le_mul_right _ this
                _ < 18446744073709551616 := by decide
            · calc c.toNat * 2 ^ (7 * a) ≤ 127 * 2 ^ (7 * a) := Nat.mul_le_mul_right _ (by omega)
                _ ≤ 127 * 2 ^ 56 := Nat.mul_le_mul_left _ (Nat.pow_le_pow_right (by decide) (by omega))
                _ < 18446744073709551616 := by decide
          rw [tk_ok ha9 hc1 hn, or_shl hacc hx (by omega), e1, drop_bytes, Nat.mod_eq_of_lt hc1]
          rfl
        by_cases ha1 : 1 ≤ a
        · rw [if_pos (by omega)]
          by_cases hz : c.toNat = 0
          · rw [if_pos (by omega), tk_bad ha9 hc1 (.inl ⟨ha1, hz⟩)]; rfl
          · rw [if_neg (by omega)]
            by_cases h9 : a = 9
            · rw [if_pos (by omega)]
              by_cases h1 : 1 < c.toNat
              · rw [if_pos (by omega), tk_bad ha9 hc1 (.inr ⟨h9, h1⟩)]; rfl
              · rw [if_neg (by omega), if_pos (by omega), if_pos (by omega)]
                exact fin (by omega)
            · rw [if_neg (by omega), if_pos (by omega), if_pos (by omega)]
              exact fin (by omega)
        · rw [if_neg (by omega), if_neg (by omega), if_pos (by omega), if_pos (by omega)]
          exact fin (by omega)
      · rw [if_neg (by omega), tk_go ha9 hc1]
        by_cases h9 : a = 9
        · subst h9
          obtain rfl : d = 0 := by omega
          rw [show ((9 : Nat) : Int) + 1 = 10 from rfl, ← hK, show k + 2 * 0 + 2 = k + 2 from by omega, l0_ten s (by omega)]
          cases hd : s.data.toList.drop (9 + 1) with
          | nil => rfl
          | cons c r => rfl
        · have hx : c.toNat % 128 * 2 ^ (7 * a) < 18446744073709551616 := by
            calc c.toNat % 128 * 2 ^ (7 * a) ≤ 127 * 2 ^ (7 * a) := Nat.mul_le_mul_right _ (by omega)
              _ ≤ 127 * 2 ^ 56 := Nat.mul_le_mul_left _ (Nat.pow_le_pow_right (by decide) (by omega))
              _ < 18446744073709551616 := by decide
          rw [or_shl hacc hx (by omega), ← hK]
          exact ih (a + 1) k _ (by omega) (by omega) (by
            have : c.toNat % 128 * 2 ^ (7 * a) ≤ 127 * 2 ^ (7 * a) := Nat.mul_le_mul_right _ (by omega)
            rw [show 7 * (a + 1) = 7 * a + 7 from by omega, Nat.pow_add]
            omega)
    · obtain rfl : a = s.size := by omega
      rw [if_neg (by omega), if_neg (by decide), if_neg (by omega), List.drop_eq_nil_of_le (by rw [← sz]; exact Nat.le_refl _)]
      unfold takeN
      rw [if_neg (by omega)]
      rfl
theorem takeNum_T (s : ByteArray) (hs : s.size ≤ 9223372036854775807) (k : Nat) : T.octet_TakeNum.f (k + 22) s = some (takeNumS s) := by
  have h := l0_eq s hs 10 0 k 0 rfl (Nat.zero_le _) (by decide)
  exact h
theorem takeN_len (l : List UInt8) : ∀ a acc, (takeN a acc l).2.1.length ≤ l.length ∧ ((takeN a acc l).2.2 = 0 → (takeN a acc l).2.1.length < l.length) := by
  induction l with
  | nil => intro a acc; rw [takeN]; refine ⟨by simp, fun h => ?_⟩; simp only at h; split at h <;> cases h
  | cons c r ih =>
    intro a acc
    rw [takeN]
    split
    · exact ⟨by simp, fun h => by cases h⟩
    · split
      · split
        · exact ⟨by simp, fun h => by cases h⟩
        · exact ⟨by simp, fun _ => by simp⟩
      · have := ih (a + 1) (acc + c.toNat % 128 * 2 ^ (7 * a))
        simp only [List.length_cons]
        exact ⟨by omega, fun h => by have := this.2 h; omega⟩
theorem takeN_lt (l : List UInt8) : ∀ a acc, a ≤ 10 → (acc < 2 ^ (7 * a)) → (takeN a acc l).1 < 18446744073709551616 := by
  induction l with
  | nil => intro a acc _ _; rw [takeN]; show 0 < _; decide
  | cons c r ih =>
    intro a acc ha hacc
    rw [takeN]
    split
    · decide
    · rename_i h10
      split
      · rename_i hc
        split
        · decide
        · rename_i hn
          show acc + c.toNat * 2 ^ (7 * a) < _
          by_cases h9 : a = 9
          · subst h9
            have h1 : c.toNat ≤ 1 := by omega
            have : c.toNat * 2 ^ (7 * 9) ≤ 1 * 2 ^ (7 * 9) := Nat.mul_le_mul_right _ h1
            omega
          · have h2 : 2 ^ (7 * a) ≤ 2 ^ 56 := Nat.pow_le_pow_right (by decide) (by omega)
            have : c.toNat * 2 ^ (7 * a) ≤ 127 * 2 ^ (7 * a) := Nat.mul_le_mul_right _ (by omega)
            omega
      · by_cases h9 : a = 9
        · subst h9
          cases r with
          | nil => rw [takeN]; decide
          | cons c r => rw [takeN, if_pos rfl]; decide
        · refine ih (a + 1) _ (by omega) ?_
          have : c.toNat % 128 * 2 ^ (7 * a) ≤ 127 * 2 ^ (7 * a) := Nat.mul_le_mul_right _ (by omega)
          rw [show 7 * (a + 1) = 7 * a + 7 from by omega, Nat.pow_add]
          omega
theorem takeN0_lt (l : List UInt8) : (takeN 0 0 l).1 < 18446744073709551616 := takeN_lt l 0 0 (by decide) (by decide)

/-- A text that is taken. -/
def textL (l : List UInt8) (m : Int) : List UInt8 × List UInt8 × Int :=
  if (takeN 0 0 l).2.2 = 0 then
    (if m < 0 ∨ m < ((takeN 0 0 l).1 : Int) then ([], [], 5)
     else if (takeN 0 0 l).2.1.length < (takeN 0 0 l).1 then ([], [], 2)
     else ((takeN 0 0 l).2.1.take (takeN 0 0 l).1, (takeN 0 0 l).2.1.drop (takeN 0 0 l).1, 0))
  else ([], [], (takeN 0 0 l).2.2)
def outT (p : List UInt8 × List UInt8 × Int) : ByteArray × ByteArray × Int := (⟨p.1.toArray⟩, ⟨p.2.1.toArray⟩, p.2.2)
theorem mk_size (l : List UInt8) : (⟨l.toArray⟩ : ByteArray).size = l.length := by rw [sz]
theorem takeText_T (s : ByteArray) (hs : s.size ≤ 9223372036854775807) (m : Int) (hm : -9223372036854775808 ≤ m ∧ m ≤ 9223372036854775807) (k : Nat) :
    T.octet_TakeText.f (k + 22) s m = some (outT (textL s.data.toList m)) := by
  unfold T.octet_TakeText.f
  rw [bs (takeNum_T s hs k)]
  have hlt := takeN0_lt s.data.toList
  have hl := (takeN_len s.data.toList 0 0).1
  rw [← sz] at hl
  unfold takeNumS textL
  generalize takeN 0 0 s.data.toList = p at *
  obtain ⟨n, r, e⟩ := p
  replace hlt : n < 18446744073709551616 := hlt
  replace hl : r.length ≤ s.size := hl
  by_cases he : e = 0
  · rw [if_pos (show (outN (n, r, e)).2.2 = 0 from he), if_pos (show (n, r, e).2.2 = 0 from he)]
    dsimp only [outN]
    have j0 : ∀ b : Bool, T.octet_TakeText.j0 (k + 22) (n : Int) ⟨r.toArray⟩ b = if b = true then some (⟨#[]⟩, ⟨#[]⟩, 5) else if r.length < n then some (⟨#[]⟩, ⟨#[]⟩, 2) else some (⟨(r.take n).toArray⟩, ⟨(r.drop n).toArray⟩, 0) := by
      intro b
      show T.octet_TakeText.j0 ((k + 21) + 1) _ _ _ = _
      rw [T.octet_TakeText.j0]
      by_cases hb : b = true
      · rw [if_pos hb, if_pos hb]
      · rw [if_neg hb, if_neg hb, mk_size, IntKind.wrap_u64]
        by_cases h2 : r.length < n
        · rw [if_pos (by omega), if_pos h2]
        · rw [if_neg (by omega), if_neg h2, if_pos (by omega), if_pos (by omega), Int.toNat_natCast]
          congr 2
          · apply inj; rw [ext_, List.drop_zero]
          · congr 1; apply inj; rw [ext_, List.take_of_length_le (Nat.le_refl _)]
    by_cases h1 : m < 0
    · rw [if_pos h1, j0, if_pos rfl, if_pos (.inl h1)]; rfl
    · rw [if_neg h1, j0]
      by_cases h2 : m < (n : Int)
      · rw [if_pos (by simp [IntKind.wrap_u64]; omega), if_pos (.inr h2)]; rfl
      · rw [if_neg (by simp [IntKind.wrap_u64]; omega), if_neg (show ¬(m < 0 ∨ m < (n : Int)) by omega)]
        by_cases h3 : r.length < n
        · rw [if_pos h3, if_pos h3]; rfl
        · rw [if_neg h3, if_neg h3]; rfl
  · rw [if_neg (show ¬ (outN (n, r, e)).2.2 = 0 from he), if_neg (show ¬ (n, r, e).2.2 = 0 from he)]; rfl
def octet_TakeNum.f (a0 : ByteArray) : Option (Int × ByteArray × Int) := if a0.size ≤ 9223372036854775807 then some (takeNumS a0) else none
theorem octet_TakeNum.calls (a0 : ByteArray) (r1 : Int) (r2 : ByteArray) (r3 : Int) (w : World) (h : octet_TakeNum.f a0 = some (r1, r2, r3)) :
    Calls Try.prog 76 #[.string a0] w fun e w' => e = .returned (.tuple #[.int .u64 r1, .string r2, .int .i64 r3]) ∧ Drawn0 w w' := by
  unfold octet_TakeNum.f at h
  split at h
  · rename_i hh; exact T.octet_TakeNum.calls 22 a0 r1 r2 r3 w ((takeNum_T a0 hh 0).trans h)
  · cases h
def octet_TakeText.f (a0 : ByteArray) (a1 : Int) : Option (ByteArray × ByteArray × Int) := if a0.size ≤ 9223372036854775807 ∧ -9223372036854775808 ≤ a1 ∧ a1 ≤ 9223372036854775807 then some (outT (textL a0.data.toList a1)) else none
theorem octet_TakeText.calls (a0 : ByteArray) (a1 : Int) (r1 : ByteArray) (r2 : ByteArray) (r3 : Int) (w : World) (h : octet_TakeText.f a0 a1 = some (r1, r2, r3)) :
    Calls Try.prog 66 #[.string a0, .int .i64 a1] w fun e w' => e = .returned (.tuple #[.string r1, .string r2, .int .i64 r3]) ∧ Drawn0 w w' := by
  unfold octet_TakeText.f at h
  split at h
  · rename_i hh; exact T.octet_TakeText.calls 22 a0 a1 r1 r2 r3 w ((takeText_T a0 hh.1 a1 hh.2 0).trans h)
  · cases h
/-- Texts that are taken, one by one. -/
def loopL : Nat → List UInt8 → List (List UInt8) → Int → List (List UInt8) × List UInt8 × Int
  | 0, r, acc, _ => (acc, r, 0)
  | n + 1, r, acc, m => if (textL r m).2.2 = 0 then loopL n (textL r m).2.1 (acc ++ [(textL r m).1]) m else ([], [], (textL r m).2.2)
def listL (l : List UInt8) (most long : Int) : List (List UInt8) × List UInt8 × Int :=
  if (takeN 0 0 l).2.2 = 0 then (if most < 0 ∨ most < ((takeN 0 0 l).1 : Int) then ([], [], 5) else loopL (takeN 0 0 l).1 (takeN 0 0 l).2.1 [] long)
  else ([], [], (takeN 0 0 l).2.2)
def mks (l : List (List UInt8)) : List ByteArray := l.map fun x => ⟨x.toArray⟩
def outLs (p : List (List UInt8) × List UInt8 × Int) : List ByteArray × ByteArray × Int := (mks p.1, ⟨p.2.1.toArray⟩, p.2.2)
end Go.Proofs.Ytcbfnfggnocndaa
end

section
/- What octet.TakeList comes to: as many texts as are told, one by one. -/
set_option linter.unusedVariables false
set_option linter.unusedSimpArgs false
namespace Go.Proofs.Ytcbfnfggnocndaa
open Go.RowKit Go.Proofs.YtcbfnfggnocndaaW.PrintWords Go.Proofs.YtcbfnfggnocndaaW.PrintLast Go.Proofs.YtcbfnfggnocndaaW.PrintMore Math

/-- A block of one cell. -/
def One (w : World) (b : Nat) (v : Value) (t : TypeId) : Prop := w.heap[b]? = some (.cells #[v] t (0, 0))
theorem One.cell {w : World} {b : Nat} {v : Value} {t : TypeId} (h : One w b v t) : w.cell? ⟨b, 0, none⟩ = some v := by simp [World.cell?, show w.heap[b]? = _ from h]
theorem One.free {w : World} {b : Nat} {v : Value} {t : TypeId} (h : One w b v t) : w.frozen? ⟨b, 0, none⟩ = false := by simp [World.frozen?, show w.heap[b]? = _ from h]
theorem One.lt {w : World} {b : Nat} {v : Value} {t : TypeId} (h : One w b v t) : b < w.heap.size := (Array.getElem?_eq_some_iff.1 h).1
theorem One.set {w : World} {b : Nat} {v u : Value} {t : TypeId} (h : One w b v t) : One (w.setCell ⟨b, 0, none⟩ u) b u t := by
  have := heap_setCell_same w b 0 #[v] t u h
  exact this
theorem One.far {w : World} {b c : Nat} {v u : Value} {t : TypeId} (h : One w b v t) (hne : b ≠ c) : One (w.setCell ⟨c, 0, none⟩ u) b v t := by
  unfold One; rw [heap_setCell_other w ⟨c, 0, none⟩ b u hne]; exact h
theorem One.keep {w w1 : World} {b B : Nat} {v : Value} {t : TypeId} (h : One w b v t) (hB : Below B w w1) (hb : b < B) : One w1 b v t := by
  unfold One; rw [hB.block b hb]; exact h
theorem own_far {w : World} {base n c : Nat} {e : TypeId} {v u : Value} {xs : List Value} (h : w.ownsRow base e 1 v n xs) (hc : c < base) : (w.setCell ⟨c, 0, none⟩ u).ownsRow base e 1 v n xs :=
  own_move h (fun k hk => heap_setCell_other w ⟨c, 0, none⟩ k u (by have := own_base h k hk; show k ≠ c; omega))

def octet_TakeList.f (a0 : ByteArray) (a1 a2 : Int) : Option (List ByteArray × ByteArray × Int) :=
  if a0.size ≤ 8000000000000 ∧ (-9223372036854775808 ≤ a1 ∧ a1 ≤ 9223372036854775807) ∧ (-9223372036854775808 ≤ a2 ∧ a2 ≤ 9223372036854775807) then some (outLs (listL a0.data.toList a1 a2)) else none

end Go.Proofs.Ytcbfnfggnocndaa
end

section
/- The plain mathematics of short numbers and texts: what is laid is taken, what is taken was laid, no beginning is. -/
set_option linter.unusedVariables false
set_option linter.unusedSimpArgs false
namespace Go.Proofs.Ytcbfnfggnocndaa
open Go.RowKit Math

/-- The short number's bytes. -/
def numB (n : Nat) : List UInt8 := (numL n).map fun x => UInt8.ofNat x.toNat
theorem numS_dl (n : Nat) : (numS n).data.toList = numB n := rfl
theorem numB_lo {n : Nat} (h : ¬ 128 ≤ n) : numB n = [UInt8.ofNat n] := by rw [numB, numL_lo h]; simp
theorem numB_hi {n : Nat} (h : 128 ≤ n) : numB n = UInt8.ofNat (n % 128 + 128) :: numB (n / 128) := by rw [numB, numL_hi h]; rfl
theorem ofNat_toNat {n : Nat} (h : n < 256) : (UInt8.ofNat n).toNat = n := by rw [UInt8.toNat_ofNat']; omega
theorem numB_pos (n : Nat) : 1 ≤ (numB n).length := by
  by_cases h : 128 ≤ n
  · rw [numB_hi h]; simp
  · rw [numB_lo h]; simp
theorem pow7 (a : Nat) : 2 ^ (7 * (a + 1)) = 128 * 2 ^ (7 * a) := by rw [show 7 * (a + 1) = 7 * a + 7 from by omega, Nat.pow_add]; omega
/-- What was laid is taken as it was, whatever stands behind it. -/
theorem take_num (n : Nat) : ∀ (a acc : Nat) (m : List UInt8), (1 ≤ a → 1 ≤ n) → n * 2 ^ (7 * a) < 18446744073709551616 → takeN a acc (numB n ++ m) = (acc + n * 2 ^ (7 * a), m, 0) := by
  induction n using Nat.strongRecOn with
  | _ n ih =>
    intro a acc m ha hn
    have ha9 : a ≤ 9 := by
      rcases Nat.lt_or_ge 9 a with h | h
      · have h1 := ha (by omega)
        have h2 : 2 ^ 70 ≤ 2 ^ (7 * a) := Nat.pow_le_pow_right (by decide) (by omega)
        have h3 : 1 * 2 ^ (7 * a) ≤ n * 2 ^ (7 * a) := Nat.mul_le_mul_right _ h1
        omega
      · exact h
    by_cases h : 128 ≤ n
    · rw [numB_hi h, List.cons_append]
      have hc : (UInt8.ofNat (n % 128 + 128)).toNat = n % 128 + 128 := ofNat_toNat (by omega)
      rw [tk_go ha9 (by rw [hc]; omega), hc]
      have e : n * 2 ^ (7 * a) = n % 128 * 2 ^ (7 * a) + n / 128 * 2 ^ (7 * (a + 1)) := by
        rw [pow7, ← Nat.mul_assoc, ← Nat.add_mul]
        congr 1; omega
      rw [ih (n / 128) (by omega) (a + 1) _ m (by omega) (by omega)]
      rw [show (n % 128 + 128) % 128 = n % 128 from by omega]
      congr 1
      omega
    · rw [numB_lo h, List.cons_append, List.nil_append]
      have hc : (UInt8.ofNat n).toNat = n := ofNat_toNat (by omega)
      rw [tk_ok ha9 (by rw [hc]; omega) (by
        rw [hc]
        rintro (⟨h1, h2⟩ | ⟨h1, h2⟩)
        · have := ha h1; omega
        · subst h1
          have : 2 * 2 ^ (7 * 9) ≤ n * 2 ^ (7 * 9) := Nat.mul_le_mul_right _ h2
          omega), hc]
theorem take_num0 {n : Nat} (h : n < 18446744073709551616) (m : List UInt8) : takeN 0 0 (numB n ++ m) = (n, m, 0) := by
  have := take_num n 0 0 m (by omega) (by simpa using h)
  simpa using this
/-- What is taken was laid. -/
theorem take_inv (l : List UInt8) : ∀ (a acc : Nat), a ≤ 10 → (takeN a acc l).2.2 = 0 → ∃ n, (takeN a acc l).1 = acc + n * 2 ^ (7 * a) ∧ l = numB n ++ (takeN a acc l).2.1 ∧ (1 ≤ a → 1 ≤ n) := by
  induction l with
  | nil => intro a acc _ h; rw [takeN] at h; simp only at h; split at h <;> cases h
  | cons c r ih =>
    intro a acc ha h
    have hcc : c = UInt8.ofNat c.toNat := by simp
    by_cases h10 : a = 10
    · rw [takeN, if_pos h10] at h; cases h
    · have ha9 : a ≤ 9 := by omega
      by_cases hc : c.toNat < 128
      · by_cases hb : (1 ≤ a ∧ c.toNat = 0) ∨ (a = 9 ∧ 1 < c.toNat)
        · rw [tk_bad ha9 hc hb] at h; cases h
        · rw [tk_ok ha9 hc hb]
          refine ⟨c.toNat, rfl, ?_, by omega⟩
          rw [numB_lo (by omega), ← hcc]; rfl
      · rw [tk_go ha9 hc] at h ⊢
        obtain ⟨n, h1, h2, h3⟩ := ih (a + 1) _ (by omega) h
        have hlt := c.toNat_lt
        have hn := h3 (by omega)
        refine ⟨c.toNat % 128 + 128 * n, ?_, ?_, by omega⟩
        · rw [h1, pow7, Nat.add_mul, ← Nat.mul_assoc, Nat.mul_comm n 128]; omega
        · rw [numB_hi (by omega), show (c.toNat % 128 + 128 * n) / 128 = n from by omega, show (c.toNat % 128 + 128 * n) % 128 + 128 = c.toNat from by omega, ← hcc, List.cons_append, ← h2]
theorem take_inv0 {l : List UInt8} (h : (takeN 0 0 l).2.2 = 0) : l = numB (takeN 0 0 l).1 ++ (takeN 0 0 l).2.1 := by
  obtain ⟨n, h1, h2, _⟩ := take_inv l 0 0 (by decide) h
  have : (takeN 0 0 l).1 = n := by rw [h1]; simp
  rw [this]; exact h2
/-! ### texts -/
def textB (t : List UInt8) : List UInt8 := numB t.length ++ t
theorem textS_dl (s : ByteArray) : (textS s).data.toList = textB s.data.toList := by rw [textS, app, numS_dl, textB, ← sz]
theorem text_take (t m : List UInt8) (long : Int) (hl : (t.length : Int) ≤ long) (ht : t.length < 18446744073709551616) : textL (textB t ++ m) long = (t, m, 0) := by
  unfold textL textB
  rw [List.append_assoc, take_num0 ht]
  dsimp only
  rw [if_pos rfl, if_neg (by omega), if_neg (by simp), List.take_left', List.drop_left'] <;> rfl
theorem text_inv {l : List UInt8} {m : Int} (h : (textL l m).2.2 = 0) : l = textB (textL l m).1 ++ (textL l m).2.1 ∧ ((textL l m).1.length : Int) ≤ m := by
  unfold textL at h ⊢
  by_cases h0 : (takeN 0 0 l).2.2 = 0
  · rw [if_pos h0] at h ⊢
    have hi := take_inv0 h0
    by_cases h1 : m < 0 ∨ m < ((takeN 0 0 l).1 : Int)
    · rw [if_pos h1] at h; cases h
    · rw [if_neg h1] at h ⊢
      by_cases h2 : (takeN 0 0 l).2.1.length < (takeN 0 0 l).1
      · rw [if_pos h2] at h; cases h
      · rw [if_neg h2]
        have e : ((takeN 0 0 l).2.1.take (takeN 0 0 l).1).length = (takeN 0 0 l).1 := by rw [List.length_take]; omega
        refine ⟨?_, by rw [e]; omega⟩
        unfold textB
        rw [e, List.append_assoc, List.take_append_drop]
        exact hi
  · rw [if_neg h0] at h; exact absurd h h0
/-! ### lists -/
end Go.Proofs.Ytcbfnfggnocndaa
end

section
/- The shelf's contracts of strings.Builder at this seat, laid under the numbering of strings.Join's own laying. -/
namespace Go.Proofs
open Go.Shelf
theorem Try.lays166_b : Go.Proofs.Lays.n166 Try.prog Try.lays156_ren := {
  mixed := by kernel_rfl
  f166 := Try.func73.trans (congrArg some (by kernel_rfl))
  f240 := Try.func79.trans (congrArg some (by kernel_rfl))
  f276 := Try.func82.trans (congrArg some (by kernel_rfl))
  t0 := Try.underlying0
  a0 := Try.isAgg0
  z0 := Try.sizeOf0
  v0 := Try.zeroValue0
  t3 := Try.underlying3
  a3 := Try.isAgg3
  z3 := Try.sizeOf3
  v3 := Try.zeroValue3
  t4 := Try.underlying4
  a4 := Try.isAgg4
  z4 := Try.sizeOf4
  v4 := Try.zeroValue4
  t9 := Try.underlying9
  a9 := Try.isAgg9
  z9 := Try.sizeOf9
  v9 := Try.zeroValue9
  t20 := Try.underlying20
  a20 := Try.isAgg20
  z20 := Try.sizeOf20
  v20 := Try.zeroValue20
  t37 := Try.underlying71
  a37 := Try.isAgg71
  z37 := Try.sizeOf71
  v37 := Try.zeroValue71
  t70 := Try.underlying115
  a70 := Try.isAgg115
  z70 := Try.sizeOf115
  v70 := Try.zeroValue115
  t72 := Try.underlying117
  a72 := Try.isAgg117
  z72 := Try.sizeOf117
  v72 := Try.zeroValue117
  t75 := Try.underlying120
  a75 := Try.isAgg120
  z75 := Try.sizeOf120
  v75 := Try.zeroValue120
  t164 := Try.underlying132
  a164 := Try.isAgg132
  z164 := Try.sizeOf132
  v164 := Try.zeroValue132 }
end Go.Proofs
end

section
/- Layer 5, walked: round: sectors one behind the other (a strings.Builder). -/
set_option linter.unusedVariables false
set_option linter.unusedSimpArgs false
namespace Go.Proofs.Ytcbfnfggnocndaa
open Go.RowKit Go.Proofs.YtcbfnfggnocndaaW.PrintWords Math

theorem sb_write (B b : Nat) (bs : List Value) (s : ByteArray) (w : World) (h : Lib.IsBuilder 117 5 B b bs w) (hlen : bs.length + s.size ≤ 140737488355328) (hBw : B ≤ w.heap.size) :
    Calls Try.prog 73 #[.pointer (some ⟨b, 0, none⟩), .string s] w fun e w' => e = .returned (.tuple #[.int .i64 s.size, .nilIface]) ∧ (Lib.BuilderAt 117 5 B b (.pointer (some ⟨b, 0, none⟩)) (bs ++ Lib.strCells s) w' ∧ Below B w w') :=
  Any.Builder_WriteString Try.lays166_b Try.Builder_Extra_156 B b bs s w h hlen hBw
theorem sb_string (B b : Nat) (l : List UInt8) (w : World) (h : Lib.IsBuilder 117 5 B b (Lib.byteCells l) w) (hBw : B ≤ w.heap.size) :
    Calls Try.prog 74 #[.pointer (some ⟨b, 0, none⟩)] w fun e w' => e = .returned (.string ⟨l.toArray⟩) ∧ Below B w w' := Try.Builder_String_any B b l w h hBw
/-- A row of texts that is read: nil, or its cells lie. -/
def RdS (w : World) (A : Option Addr) (l : List ByteArray) : Prop := l = [] ∨ ∃ ad, A = some ad ∧ ad.block < w.heap.size ∧ ∀ (j : Nat) (hj : j < l.length), w.cell? (ad.add j) = some (.string l[j])
theorem blk_add (ad : Addr) (j : Nat) : (ad.add j).block = ad.block := by
  unfold Addr.add
  split <;> rfl
theorem RdS.step {w w' : World} {A : Option Addr} {l : List ByteArray} (h : RdS w A l) (hz : w.heap.size ≤ w'.heap.size) (hb : ∀ ad, A = some ad → ad.block < w.heap.size → w'.heap[ad.block]? = w.heap[ad.block]?) : RdS w' A l := by
  rcases h with h | ⟨ad, ha, hk, hc⟩
  · exact .inl h
  · refine .inr ⟨ad, ha, Nat.lt_of_lt_of_le hk hz, fun j hj => ?_⟩
    rw [← hc j hj]
    exact World.cell?_of_block (a := ad.add j) (by rw [blk_add]; exact hb ad ha hk)
theorem RdS.below {w w' : World} {A : Option Addr} {l : List ByteArray} (h : RdS w A l) (hb : Below w.heap.size w w') : RdS w' A l := h.step hb.size fun ad _ hk => hb.block _ hk
theorem RdS.at_ {w : World} {A : Option Addr} {l : List ByteArray} (h : RdS w A l) (i : Nat) (hi : i < l.length) : ∃ ad, A = some ad ∧ w.cell? (ad.add i) = some (.string l[i]) := by
  rcases h with rfl | ⟨ad, ha, _, hc⟩
  · cases hi
  · exact ⟨ad, ha, hc i hi⟩
theorem rds_of {w : World} {A : Option Addr} {l : List ByteArray} (h : Kd.string.C w A l.length l) : RdS w A l := by
  by_cases h0 : l.length = 0
  · exact .inl (List.eq_nil_of_length_eq_zero h0)
  · obtain ⟨ad, e, hc⟩ := h.2.2 (by omega)
    have hcell : ∀ (j : Nat) (hj : j < l.length), w.cell? (ad.add j) = some (.string l[j]) := fun j hj => by
      obtain ⟨c, hl, hk, hcell⟩ := hc j _ (List.getElem?_eq_getElem hj)
      obtain rfl : c = [.string l[j]] := hk
      have := hcell 0 _ rfl
      rw [show Kd.string.sz = 1 from rfl, Nat.mul_one, Nat.add_zero] at this
      exact this
    refine .inr ⟨ad, e, ?_, hcell⟩
    have := World.block_lt_of_cell? w _ (hcell 0 (by omega))
    rw [blk_add] at this
    exact this
/-- Sectors one behind the other, from a place of a ring on. -/
def roundB (l : List ByteArray) (at_ m : Nat) : List UInt8 := ((List.range m).map fun i => (l.getD ((at_ + i) % l.length) ⟨#[]⟩).data.toList).flatten
def roundS (l : List ByteArray) (at_ m : Nat) : ByteArray := ⟨(roundB l at_ m).toArray⟩
theorem roundB_succ (l : List ByteArray) (at_ m : Nat) : roundB l at_ (m + 1) = roundB l at_ m ++ (l.getD ((at_ + m) % l.length) ⟨#[]⟩).data.toList := by
  unfold roundB
  rw [List.range_succ, List.map_append, List.flatten_append]
  simp
theorem roundB_len (l : List ByteArray) (at_ : Nat) (K : Nat) (hs : ∀ s ∈ l, s.size ≤ K) : ∀ m, (roundB l at_ m).length ≤ K * m
  | 0 => by simp [roundB]
  | m + 1 => by
    rw [roundB_succ, List.length_append]
    have := roundB_len l at_ K hs m
    have h2 : (l.getD ((at_ + m) % l.length) ⟨#[]⟩).data.toList.length ≤ K := by
      rw [← sz, List.getD_eq_getElem?_getD]
      cases h : l[(at_ + m) % l.length]? with
      | none => exact Nat.zero_le _
      | some s => exact hs s (List.mem_of_getElem? h)
    rw [Nat.mul_succ]
    omega
set_option maxHeartbeats 4000000 in
set_option maxRecDepth 1000000 in
theorem round_calls (A : Option Addr) (c : Nat) (l : List ByteArray) (at_ many : Nat) (w : World) (hr : RdS w A l) (hl : 1 ≤ l.length) (hln : l.length ≤ 100000) (hat : at_ ≤ 200000) (hm : many ≤ 100000) (hs : ∀ s ∈ l, s.size ≤ 64) :
    Calls Try.prog 64 #[.slice A l.length c, .int .i64 at_, .int .i64 many] w fun e w' => e = .returned (.string (roundS l at_ many)) ∧ Below w.heap.size w w' := by
  have hbx : Lib.IsBuilder 117 5 w.heap.size w.heap.size (Lib.byteCells (roundB l at_ 0)) (w.alloc (.cells #[.pointer none, .slice none 0 0] 117)) := Lib.fresh_isBuilder _ _ w
  have HBX := Lib.hid hbx
  have HB0 := Lib.hid ((Below.refl w.heap.size w).alloc (Nat.le_refl _) (.cells #[.pointer none, .slice none 0 0] 117))
  have HR := Lib.hid hr; have HS := Lib.hid hs
  clear hr hbx hs
  go_enter Try.func64, Try.ntmps64
  go_wp2_with fail
  go_loopg [10] many (fun g v10 wx => ∃ i : Nat, i + g = many ∧ v10 = .int .i64 i ∧ Hid (Lib.IsBuilder 117 5 w.heap.size w.heap.size (Lib.byteCells (roundB l at_ i)) wx) ∧ Hid (Below w.heap.size w wx))
  case atStart => exact ⟨0, by omega, rfl, HBX, HB0⟩
  case round =>
    clear HBX HB0
    obtain ⟨i, hig, rfl, HI, HB⟩ := hrel
    cases gk with
    | zero =>
      obtain rfl : i = many := by omega
      have hiz : decide ((i : Int) < (i : Int)) = false := decide_eq_false (by omega)
      clear hig
      go_wp2_with fail
      refine (sb_string _ _ _ _ HI.out HB.out.size).mono ?_
      rintro e w2 ⟨rfl, hb2⟩
      have HB2 := Lib.hid (HB.out.trans hb2)
      clear hb2
      go_wp2_with fail
      go_ret
      exact ⟨rfl, HB2.out⟩
    | succ g =>
      have hi : i < many := by omega
      have hiz : decide ((i : Int) < (many : Int)) = true := decide_eq_true (by omega)
      obtain ⟨m, hm2⟩ : ∃ m, m = (at_ + i) % l.length := ⟨_, rfl⟩
      have hml : m < l.length := by rw [hm2]; exact Nat.mod_lt _ (by omega)
      obtain ⟨ad, hA, hcell⟩ := HR.out.at_ m hml
      subst hA
      replace hcell := (HB.out.cell (World.block_lt_of_cell? w _ hcell)).trans hcell
      have hrem : Int.tmod ((at_ : Int) + (i : Int)) (l.length : Int) = (m : Int) := by
        rw [show (at_ : Int) + (i : Int) = ((at_ + i : Nat) : Int) by omega, hm2]; rfl
      have hsn := roundB_succ l at_ i
      have hg : l.getD ((at_ + i) % l.length) ⟨#[]⟩ = l[m] := by rw [← hm2, List.getD_eq_getElem?_getD, List.getElem?_eq_getElem hml]; rfl
      rw [hg] at hsn
      have hsz := HS.out _ (List.getElem_mem hml)
      have hln2 : (roundB l at_ i).length ≤ 64 * i := roundB_len l at_ 64 HS.out i
      have hln3 : (roundB l at_ i).length + l[m].size ≤ 140737488355328 := by omega
      have hsc : Lib.strCells l[m] = Lib.byteCells l[m].data.toList := Lib.strCells_eq _
      have HSN := Lib.hid hsn; have HLN := Lib.hid hln3; have HSC := Lib.hid hsc
      have hlz : ¬ ((l.length : Int) = 0) := by omega
      have hlz2 : ((l.length : Int) == 0) = false := beq_eq_false_iff_ne.2 (by omega)
      have p1 : (0 : Int) ≤ (m : Int) := by omega
      have p2 : (m : Int) < (l.length : Int) := by omega
      clear hsn hln2 hln3 hg hm2 hsz hsc
      generalize l[m] = sx at *
      go_wp2_with fail
      refine (sb_write _ _ _ sx _ HI.out (by rw [Lib.byteCells_length]; exact HLN.out) HB.out.size).mono ?_
      rintro e w4 ⟨rfl, hs4, hb4⟩
      have HB4 := Lib.hid (HB.out.trans hb4)
      have HS4 : Hid (Lib.IsBuilder 117 5 w.heap.size w.heap.size (Lib.byteCells (roundB l at_ (i + 1))) w4) := Lib.hid (by
        rw [HSN.out, Lib.byteCells_append, ← HSC.out]; exact .inr hs4)
      clear hs4 hb4
      go_wp2_with fail
      go_roundg g
      case measure => omega
      case rel => exact ⟨i + 1, by omega, by congr 1, HS4, HB4⟩
def redo_round.f (l0 : List ByteArray) (a1 a2 : Int) : Option ByteArray := if 1 ≤ l0.length ∧ l0.length ≤ 100000 ∧ 0 ≤ a1 ∧ a1 ≤ 200000 ∧ 0 ≤ a2 ∧ a2 ≤ 100000 ∧ ∀ s ∈ l0, s.size ≤ 64 then some (roundS l0 a1.toNat a2.toNat) else none
theorem redo_round.calls (A0 : Option Addr) (c0 : Nat) (l0 : List ByteArray) (a1 a2 : Int) (r : ByteArray) (w : World) (hr0 : Kd.C Kd.string w A0 l0.length l0) (hc0 : l0.length ≤ c0) (h : redo_round.f l0 a1 a2 = some r) :
    Calls Try.prog 64 #[.slice A0 l0.length c0, .int .i64 a1, .int .i64 a2] w fun e w' => e = .returned (.string r) ∧ Below w.heap.size w w' := by
  unfold redo_round.f at h
  split at h
  · rename_i hh
    obtain rfl := Option.some.inj h
    obtain ⟨x, rfl⟩ := Int.eq_ofNat_of_zero_le hh.2.2.1
    obtain ⟨n, rfl⟩ := Int.eq_ofNat_of_zero_le hh.2.2.2.2.1
    exact round_calls A0 c0 l0 x n w (rds_of hr0) hh.1 hh.2.1 (by omega) (by omega) hh.2.2.2.2.2.2
  · cases h
end Go.Proofs.Ytcbfnfggnocndaa
end

section
/- Layer 5, walked: ring. -/
set_option linter.unusedVariables false
set_option linter.unusedSimpArgs false
namespace Go.Proofs.Ytcbfnfggnocndaa
open Go.RowKit Go.Shelf Go.Proofs.Ytcbfnfggnocndaa.Q Go.Proofs.YtcbfnfggnocndaaW.PrintWords Go.Proofs.YtcbfnfggnocndaaW.PrintLast Go.Proofs.YtcbfnfggnocndaaW.PrintMore Math

/-- A disk and a ring in boxes of their own. -/
structure Bx2 (w W : World) (d0 d1 d2 : Value) (f m : Int) : Prop where
  d : W.heap[w.heap.size]? = some (.cells #[d0, d1, d2] 25 (0, 0))
  r : W.heap[w.heap.size + 1]? = some (.cells #[.int .i64 f, .int .i64 m] 27 (0, 0))
  b : Below w.heap.size w W
namespace Bx2
variable {w W W' : World} {d0 d1 d2 : Value} {f m : Int}
theorem new (w : World) (d0 d1 d2 : Value) (f m : Int) : Bx2 w ((w.alloc (.cells #[d0, d1, d2] 25)).alloc (.cells #[.int .i64 f, .int .i64 m] 27)) d0 d1 d2 f m := by
  have h := heap_alloc_new (w.alloc (.cells #[d0, d1, d2] 25)) (.cells #[.int .i64 f, .int .i64 m] 27)
  rw [World.size_alloc] at h
  refine ⟨?_, h, ((Below.refl _ w).alloc (Nat.le_refl _) _).alloc (by rw [World.size_alloc]; omega) _⟩
  rw [Below.heap_alloc _ _ _ (by rw [World.size_alloc]; omega)]
  exact heap_alloc_new w _
theorem step (h : Bx2 w W d0 d1 d2 f m) (hb : Below W.heap.size W W') : Bx2 w W' d0 d1 d2 f m :=
  ⟨(hb.block _ (blk_lt h.d)).trans h.d, (hb.block _ (blk_lt h.r)).trans h.r, h.b.trans (hb.mono h.b.size)⟩
theorem c0 (h : Bx2 w W d0 d1 d2 f m) : W.cell? ⟨w.heap.size, 0, none⟩ = some d0 := by rw [blk_cell h.d]; rfl
theorem c1 (h : Bx2 w W d0 d1 d2 f m) : W.cell? ⟨w.heap.size, 1, none⟩ = some d1 := by rw [blk_cell h.d]; rfl
theorem c2 (h : Bx2 w W d0 d1 d2 f m) : W.cell? ⟨w.heap.size, 2, none⟩ = some d2 := by rw [blk_cell h.d]; rfl
theorem r0 (h : Bx2 w W d0 d1 d2 f m) : W.cell? ⟨w.heap.size + 1, 0, none⟩ = some (.int .i64 f) := by rw [blk_cell h.r]; rfl
theorem r1 (h : Bx2 w W d0 d1 d2 f m) : W.cell? ⟨w.heap.size + 1, 1, none⟩ = some (.int .i64 m) := by rw [blk_cell h.r]; rfl
end Bx2
theorem img_row {W : World} {base : Nat} {ok : Nat → Prop} {v : Value} {L : List ByteArray} (hR : Kd.R Kd.string 9 W base ok v L) (hL : 0 < L.length) :
    ∃ g cap, v = .slice (some ⟨g, 0, none⟩) L.length cap ∧ L.length ≤ cap ∧ cap ≤ maxLen ∧ base ≤ g ∧ RdS W (some ⟨g, 0, none⟩) L := by
  have ho := Kd.own_of_R hR
  rcases ho.2 with ⟨_, h2⟩ | ⟨g, cap, cur, h1, h2, h3, h4, h5, h6, h7⟩
  · omega
  · rw [Nat.mul_one] at h7
    refine ⟨g, cap, h1, h4, h5, h2, .inr ⟨_, rfl, blk_lt h3, fun j hj => ?_⟩⟩
    have e : (⟨g, 0, none⟩ : Addr).add j = ⟨g, j, none⟩ := by
      unfold Addr.add
      split
      · rename_i h; subst h; rfl
      · rw [Nat.zero_add]
    rw [e, blk_cell h3]
    have h7' : cur.toList.take L.length = L.map Value.string := h7
    have h8 := congrArg (·[j]?) h7'
    simp only [List.getElem?_take, List.getElem?_map, List.getElem?_eq_getElem hj] at h8
    rw [if_pos hj] at h8
    simpa using h8
theorem rds_cut {W : World} {g a : Nat} {L : List ByteArray} (h : RdS W (some ⟨g, 0, none⟩) L) (m : Nat) (ham : a + m ≤ L.length) : RdS W (some ⟨g, a, none⟩) ((L.drop a).take m) := by
  rcases h with rfl | ⟨ad, e, hk, hc⟩
  · exact .inl (by simp)
  · obtain rfl := Option.some.inj e
    refine .inr ⟨_, rfl, hk, fun j hj => ?_⟩
    rw [List.length_take, List.length_drop] at hj
    rw [List.getElem_take, List.getElem_drop, ← hc (a + j) (by omega)]
    congr 1
    unfold Addr.add
    split
    · rename_i h; subst h
      split
      · rename_i h; rw [Nat.add_zero] at h; subst h; rfl
      · simp
    · split
      · rename_i h1 h2; exact absurd h2 (by omega)
      · simp
theorem c_of_rds {W : World} {A : Option Addr} {L : List ByteArray} (h : RdS W A L) (hn : L.length ≤ 9223372036854775807) : Kd.string.C W A L.length L := by
  refine ⟨rfl, hn, fun h0 => ?_⟩
  rcases h with rfl | ⟨ad, e, hk, hc⟩
  · exact absurd h0 (by simp)
  · refine ⟨ad, e, fun j p hj => ⟨[.string p], rfl, rfl, fun i u hu => ?_⟩⟩
    obtain ⟨hlt, rfl⟩ := List.getElem?_eq_some_iff.1 hj
    cases i with
    | zero =>
      obtain rfl : Value.string L[j] = u := by simpa using hu
      rw [show Kd.string.sz = 1 from rfl, Nat.mul_one, Nat.add_zero]
      exact hc j hlt
    | succ i => simp at hu
/-- A ring's sectors. -/
def ringL (l0 : List ByteArray) (l1 : List S88) (f m : Nat) : List ByteArray := ((doneL l0 l1 fun _ => true).drop f).take m
theorem ringL_len (l0 : List ByteArray) (l1 : List S88) (f m : Nat) (h : f + m ≤ l0.length) : (ringL l0 l1 f m).length = m := by
  unfold ringL
  rw [List.length_take, List.length_drop, show (doneL l0 l1 fun _ => true).length = l0.length from imgL_len _ _]; omega
set_option maxHeartbeats 4000000 in
set_option maxRecDepth 1000000 in
theorem ring_calls (A0 : Option Addr) (c0 : Nat) (l0 : List ByteArray) (A1 : Option Addr) (c1 : Nat) (l1 : List S88) (off : Bool) (fr mn : Nat) (w : World) (h0 : Kd.C Kd.string w A0 l0.length l0) (g0 : l0.length ≤ c0) (h1 : Kd.C k88 w A1 l1.length l1) (g1 : l1.length ≤ c1) (hok : DiskOk l0 l1) (hm : 1 ≤ mn) (hfm : fr + mn ≤ l0.length) :
    Calls Try.prog 39 #[.agg #[.slice A0 l0.length c0, .slice A1 l1.length c1, .bool off], .agg #[.int .i64 fr, .int .i64 mn]] w fun e w' => ∃ A' c', e = .returned (.slice A' (ringL l0 l1 fr mn).length c') ∧ RdS w' A' (ringL l0 l1 fr mn) ∧ (ringL l0 l1 fr mn).length ≤ c' ∧ (∀ ad, A' = some ad → w.heap.size ≤ ad.block) ∧ Below w.heap.size w w' := by
  have hlen : (doneL l0 l1 fun _ => true).length = l0.length := imgL_len _ _
  have hn2 : l0.length ≤ 1000000000 := hok.2.1
  obtain ⟨W1, hW1⟩ : ∃ W1, W1 = (w.alloc (.cells #[.slice A0 l0.length c0, .slice A1 l1.length c1, .bool off] 25)).alloc (.cells #[.int .i64 fr, .int .i64 mn] 27) := ⟨_, rfl⟩
  have hx := Bx2.new w (.slice A0 l0.length c0) (.slice A1 l1.length c1) (.bool off) fr mn
  rw [← hW1] at hx
  have hbd : Below w.heap.size w W1.drew := below_drew hx.b
  have hi := disk_Image.calls A0 c0 l0 A1 c1 l1 off _ W1.drew (Kd.C_below h0 hbd) g0 (Kd.C_below h1 hbd) g1 (show disk_Image.f l0 l1 off = some (doneL l0 l1 fun _ => true) by unfold disk_Image.f; rw [if_pos hok])
  have hrl : (ringL l0 l1 fr mn).length = mn := ringL_len l0 l1 fr mn hfm
  obtain ⟨R, hR⟩ : ∃ R, R = ringL l0 l1 fr mn := ⟨_, rfl⟩
  rw [← hR] at hrl ⊢
  unfold ringL at hR
  generalize (doneL l0 l1 fun _ => true) = L at *
  have HX := Lib.hid hx; have HXD : Hid (Bx2 w W1.drew _ _ _ _ _) := Lib.hid ⟨hx.d, hx.r, below_drew hx.b⟩; have HI := Lib.hid hi; have HRL := Lib.hid hR; have HW1 := Lib.hid hW1
  have hLp : 0 < L.length := by omega
  have HS1 : Hid (wrap64 ((fr : Int) + (mn : Int)) = (fr : Int) + (mn : Int)) := Lib.hid (w64 (by omega) (by omega))
  have s3 : (0 : Int) ≤ (fr : Int) + (mn : Int) := by omega
  have etn : ((fr : Int) + (mn : Int)).toNat = fr + mn := by omega
  have s4 : fr + mn - fr = mn := by omega
  have s6 : fr ≤ fr + mn := by omega
  clear h0 h1 hx hi hR hW1 hbd hok
  go_enter Try.func39, Try.ntmps39
  go_wp2_with fail
  rw [← HW1.out]
  refine start_ (n := 11) (S := fun w' => w'.cell? ⟨w.heap.size, 0, none⟩ = some (.slice A0 l0.length c0) ∧ w'.cell? ⟨w.heap.size, 1, none⟩ = some (.slice A1 l1.length c1) ∧ w'.cell? ⟨w.heap.size, 2, none⟩ = some (.bool off) ∧ w'.cell? ⟨w.heap.size + 1, 0, none⟩ = some (.int .i64 (fr : Int)) ∧ w'.cell? ⟨w.heap.size + 1, 1, none⟩ = some (.int .i64 (mn : Int))) (ds := []) #[false, false, false, false, false, false, false, false, false, false, false] (by kernel_rfl) rfl rfl ⟨HX.out.c0, HX.out.c1, HX.out.c2, HX.out.r0, HX.out.r1⟩ (fun hHeld => ?_)
  refine pure_ (i := 2) (N := some 7) (v := ?_) (a' := ?_) #[false, false, true, false, false, false, false, false, false, false, false] rfl rfl (by kernel_rfl) (fun _ _ _ h => h) (Or.inl ⟨by rfl, ?_⟩) ?_ ?_
  rotate_left
  · intro w'
    go_simp
    with_reducible rfl
  rotate_left
  · simp only [Act.put, List.setIfInBounds_toArray, List.set_cons_zero, List.set_cons_succ, i64_w, i32_w]
    rfl
  refine pure_ (i := 4) (N := some 9) (v := ?_) (a' := ?_) #[false, false, true, false, true, false, false, false, false, false, false] rfl rfl (by kernel_rfl) (fun _ _ _ h => h) (Or.inl ⟨by rfl, ?_⟩) ?_ ?_
  rotate_left
  · intro w'
    go_simp
    with_reducible rfl
  rotate_left
  · simp only [Act.put, List.setIfInBounds_toArray, List.set_cons_zero, List.set_cons_succ, i64_w, i32_w]
    rfl
  refine pure_ (i := 6) (N := some 11) (v := ?_) (a' := ?_) #[false, false, true, false, true, false, true, false, false, false, false] rfl rfl (by kernel_rfl) (fun _ _ _ h => h) (Or.inl ⟨by rfl, ?_⟩) ?_ ?_
  rotate_left
  · intro w'
    go_simp
    with_reducible rfl
  rotate_left
  · simp only [Act.put, List.setIfInBounds_toArray, List.set_cons_zero, List.set_cons_succ, i64_w, i32_w]
    rfl
  refine take_ (i := 0) (N := some 5) (v := ?_) (a' := ?_) #[true, false, true, false, true, false, true, false, false, false, false] rfl rfl (by kernel_rfl) (fun _ _ _ h => h) (Or.inl ⟨by rfl, ?_⟩) hHeld ?_ ?_
  rotate_left
  · rintro w' ⟨s0, s1, s2, s3, s4⟩
    go_simp
    with_reducible rfl
  rotate_left
  · simp only [Act.put, List.setIfInBounds_toArray, List.set_cons_zero, List.set_cons_succ, i64_w, i32_w]
    rfl
  refine take_ (i := 3) (N := some 8) (v := ?_) (a' := ?_) #[true, false, true, true, true, false, true, false, false, false, false] rfl rfl (by kernel_rfl) (fun _ _ _ h => h) (Or.inl ⟨by rfl, ?_⟩) hHeld ?_ ?_
  rotate_left
  · rintro w' ⟨s0, s1, s2, s3, s4⟩
    go_simp
    with_reducible rfl
  rotate_left
  · simp only [Act.put, List.setIfInBounds_toArray, List.set_cons_zero, List.set_cons_succ, i64_w, i32_w]
    rfl
  refine take_ (i := 5) (N := some 10) (v := ?_) (a' := ?_) #[true, false, true, true, true, true, true, false, false, false, false] rfl rfl (by kernel_rfl) (fun _ _ _ h => h) (Or.inl ⟨by rfl, ?_⟩) hHeld ?_ ?_
  rotate_left
  · rintro w' ⟨s0, s1, s2, s3, s4⟩
    go_simp
    with_reducible rfl
  rotate_left
  · simp only [Act.put, List.setIfInBounds_toArray, List.set_cons_zero, List.set_cons_succ, i64_w, i32_w]
    rfl
  refine take_ (i := 7) (N := some 12) (v := ?_) (a' := ?_) #[true, false, true, true, true, true, true, true, false, false, false] rfl rfl (by kernel_rfl) (fun _ _ _ h => h) (Or.inl ⟨by rfl, ?_⟩) hHeld ?_ ?_
  rotate_left
  · rintro w' ⟨s0, s1, s2, s3, s4⟩
    go_simp
    with_reducible rfl
  rotate_left
  · simp only [Act.put, List.setIfInBounds_toArray, List.set_cons_zero, List.set_cons_succ, i64_w, i32_w]
    rfl
  refine pure_ (i := 8) (N := some 13) (v := ?_) (a' := ?_) #[true, false, true, true, true, true, true, true, true, false, false] rfl rfl (by kernel_rfl) (fun _ _ _ h => h) (Or.inl ⟨by rfl, ?_⟩) ?_ ?_
  rotate_left
  · intro w'
    go_simp
    with_reducible rfl
  rotate_left
  · simp only [Act.put, List.setIfInBounds_toArray, List.set_cons_zero, List.set_cons_succ, i64_w, i32_w]
    rfl
  refine one_ (i := 1) (N := some 6) #[true, true, true, true, true, true, true, true, true, false, false] rfl rfl (by kernel_rfl) (by decide) (fun K hK => ?_)
  refine goes_ Try.func56 (by kernel_rfl) rfl #[.agg #[.slice A0 l0.length c0, .slice A1 l1.length c1, .bool off]] (by rfl) rfl rfl (by simp only [List.map_toArray, List.map_cons, List.map_nil]; rfl) ?_
  with_reducible refine (HI.out).mono ?_
  rintro e w3 ⟨v, rfl, hR, hb⟩
  refine ⟨_, rfl, ?_⟩
  have HX3 := Lib.hid (HXD.out.step hb)
  obtain ⟨g, cap, rfl, hcap, hcm, hg0, hrow⟩ := img_row hR hLp
  have HROW := Lib.hid hrow
  have HBB := Lib.hid hb
  clear hR hb hrow
  unfold maxLen at hcm
  have s2 : (fr : Int) + (mn : Int) ≤ (cap : Int) := by omega
  have s5 : ¬ cap = fr := by omega
  have s1 := HS1.out
  refine hK.out _ _ ⟨HX3.out.c0, HX3.out.c1, HX3.out.c2, HX3.out.r0, HX3.out.r1⟩ (fun hHeld => ?_)
  clear hK K
  refine norm_ (a' := ?_) ?_ ?_
  rotate_left
  · show Act.put _ (some 6) _ = _
    simp only [Act.put, List.setIfInBounds_toArray, List.set_cons_zero, List.set_cons_succ, i64_w, i32_w]
    rfl
  refine pure_ (i := 9) (N := some 14) (v := ?_) (a' := ?_) #[true, true, true, true, true, true, true, true, true, true, false] rfl rfl (by kernel_rfl) (fun _ _ _ h => h) (Or.inl ⟨by rfl, ?_⟩) ?_ ?_
  rotate_left
  · intro w'
    go_simp
    with_reducible rfl
  rotate_left
  · simp only [Act.put, List.setIfInBounds_toArray, List.set_cons_zero, List.set_cons_succ, i64_w, i32_w]
    rfl
  refine pure_ (i := 10) (N := some 4) (v := ?_) (a' := ?_) #[true, true, true, true, true, true, true, true, true, true, true] rfl rfl (by kernel_rfl) (fun _ _ _ h => h) (Or.inl ⟨by rfl, ?_⟩) ?_ ?_
  rotate_left
  · intro w'
    go_simp
    with_reducible rfl
  rotate_left
  · simp only [Act.put, List.setIfInBounds_toArray, List.set_cons_zero, List.set_cons_succ, i64_w, i32_w]
    rfl
  refine done_ (by kernel_rfl) ?_
  go_wp2_with fail
  go_ret
  clear s1 hcm
  refine ⟨some ⟨g, fr, none⟩, cap - fr, by rw [hrl]; rfl, ?_, ?_, ?_, HX3.out.b⟩
  · rw [HRL.out]; exact rds_cut HROW.out mn (by omega)
  · rw [hrl]; omega
  · intro ad h
    obtain rfl := Option.some.inj h
    have h1 := HX.out.b.size
    have e : W1.drew.heap.size = W1.heap.size := rfl
    rw [e] at hg0
    exact Nat.le_trans h1 hg0
end Go.Proofs.Ytcbfnfggnocndaa
end

section
/- What seal.table and seal.More come to, for every register and every text: a row of 256 numbers, and a fold over the text's bytes. -/
set_option linter.unusedVariables false
set_option linter.unusedSimpArgs false
namespace Go.Proofs.Ytcbfnfggnocndaa
open Go.RowKit Go.Proofs.YtcbfnfggnocndaaW.PrintWords

/-- A register turned by one bit. -/
def tq (c : Int) : Int := if Go.bits .and .u32 c 1 = 1 then Go.bits .xor .u32 (c / 2) 2197175160 else c / 2
def tqs : Nat → Int → Int
  | 0, c => c
  | n + 1, c => tq (tqs n c)
def tb (i : Int) : Int := tqs 8 i
/-- The row, its first i numbers made. -/
def tbRow (i : Nat) : Array Value := ((List.range 256).map fun j => Value.int .u32 (if j < i then tb (j : Int) else 0)).toArray
theorem tbRow_size (i : Nat) : (tbRow i).size = 256 := by simp [tbRow]
theorem tbRow_zero : tbRow 0 = Array.replicate 256 (.int .u32 0) := by
  apply Array.ext
  · simp [tbRow]
  · intro j h1 h2; simp [tbRow]
theorem tbRow_get (i j : Nat) (h : j < (tbRow i).size) : (tbRow i)[j] = Value.int .u32 (if j < i then tb (j : Int) else 0) := by
  simp [tbRow]
theorem tbRow_set (i : Nat) : (tbRow i).setIfInBounds i (.int .u32 (tb (i : Int))) = tbRow (i + 1) := by
  apply Array.ext
  · rw [Array.size_setIfInBounds, tbRow_size, tbRow_size]
  · intro j h1 h2
    rw [Array.size_setIfInBounds] at h1
    rw [Array.getElem_setIfInBounds h1, tbRow_get, tbRow_get]
    by_cases h : i = j
    · subst h; rw [if_pos rfl, if_pos (by omega)]
    · rw [if_neg h]
      by_cases h3 : j < i
      · rw [if_pos h3, if_pos (by omega)]
      · rw [if_neg h3, if_neg (by omega)]
theorem tbRow_one (i : Nat) : (tbRow i).all (·.oneCell') = true := by
  rw [Array.all_eq_true_iff_forall_mem]
  intro x hx
  simp only [tbRow, List.mem_toArray, List.mem_map] at hx
  obtain ⟨j, _, rfl⟩ := hx
  rfl
theorem tbRow_at0 (i : Nat) (h : i < 256) : (tbRow i)[i]? = some (.int .u32 0) := by
  simp [tbRow, h]
theorem tbRow_at (j : Nat) (h : j < 256) : (tbRow 256)[j]? = some (.int .u32 (tb (j : Int))) := by
  simp [tbRow, h]

/-- A register gone on with by a byte, and by bytes. -/
def mb (c : Int) (b : Int) : Int := Go.bits .xor .u32 (tb (Go.bits .xor .u8 (c % 256) b)) (c / 256)
def mores (c : Int) (l : List UInt8) : Int := l.foldl (fun c b => mb c (b.toNat : Int)) c
def seal_More.f (a0 : Int) (a1 : ByteArray) : Option Int := if a1.size ≤ 9223372036854775807 ∧ 0 ≤ a0 ∧ a0 < 4294967296 then some (mores a0 a1.data.toList) else none
theorem bits_u8_range (op : BinOp) (x y : Int) : 0 ≤ Go.bits op .u8 x y ∧ Go.bits op .u8 x y < 256 := by
  unfold Go.bits; dsimp only; rw [IntKind.wrap_u8]; omega
theorem bits_u32_range (op : BinOp) (x y : Int) : 0 ≤ Go.bits op .u32 x y ∧ Go.bits op .u32 x y < 4294967296 := by
  unfold Go.bits; dsimp only; rw [IntKind.wrap_u32]; omega
theorem mores_snoc (c : Int) (l : List UInt8) (b : UInt8) : mores c (l ++ [b]) = mb (mores c l) (b.toNat : Int) := by simp [mores]
theorem mores_range (c : Int) (hc : 0 ≤ c ∧ c < 4294967296) (l : List UInt8) : 0 ≤ mores c l ∧ mores c l < 4294967296 := by
  induction l generalizing c with
  | nil => exact hc
  | cons b l ih => exact ih (mb c b.toNat) (bits_u32_range _ _ _)
theorem take_snoc_b (s : ByteArray) (i : Nat) (h : i < s.size) : s.data.toList.take (i + 1) = s.data.toList.take i ++ [s[i]] := by
  rw [List.take_succ_eq_append_getElem (by simpa using h)]; rfl

theorem zero41 : (∀ w, (zeroValue 113).run Try.prog w = .ok (.agg (Array.replicate 256 (.int .u32 0))) w) ∧ (Try.prog.info? 113).map (·.size) = some 256 :=
  zero_of_info (by kernel_rfl)

set_option maxHeartbeats 1000000 in
theorem turn_calls (c : Int) (w : World) : Calls Try.prog 78 #[.int .u32 c] w fun e w' => e = .returned (.int .u32 (tq c)) ∧ w = w' := by
  by_cases h : Go.bits .and .u32 c 1 = 1
  · have e : tq c = Go.bits .xor .u32 (c / 2) 2197175160 := by unfold tq; rw [if_pos h]
    rw [e]
    have h1 : (Go.bits .and .u32 c 1 == 1) = true := by rw [h]; rfl
    clear h e
    go_enter Try.func78, Try.ntmps78
    go_wp2
    go_ret
    exact ⟨rfl, rfl⟩
  · have e : tq c = c / 2 := by unfold tq; rw [if_neg h]
    rw [e]
    have h1 : (Go.bits .and .u32 c 1 == 1) = false := by simpa using h
    clear h e
    go_enter Try.func78, Try.ntmps78
    go_wp2
    go_ret
    exact ⟨rfl, rfl⟩

set_option maxHeartbeats 4000000 in
set_option maxRecDepth 1000000 in
theorem table_calls (w : World) : Calls Try.prog 71 #[] w fun e w' => e = .returned (.agg (tbRow 256)) ∧ Below w.heap.size w w' := by
  have z41 := zero41.1
  rw [← tbRow_zero] at z41
  go_enter Try.func71, Try.ntmps71
  go_wp2
  go_loopg [5] 256 (fun g s5 wx => ∃ i : Nat, i + g = 256 ∧ s5 = .int .i64 i ∧ wx = (w.alloc (.cells (tbRow 0) 113)).alloc (.cells (tbRow i) 113))
  case atStart => exact ⟨0, by omega, rfl, rfl⟩
  case round =>
    obtain ⟨i, hig, rfl, rfl⟩ := hrel
    cases gk with
    | zero =>
      obtain rfl : i = 256 := by omega
      clear hig z41
      have hiz : ¬ ((256 : Int) < 256) := by omega
      have hi41 := Lib.hid (show (Try.prog.info? 113).map (·.size) = some (tbRow 256).size by rw [tbRow_size]; exact zero41.2)
      go_wp2_with (first | (refine wpList_load_row rfl 113 _ rfl (w.heap.size + 1) rfl 113 (tbRow 256) (0, 0) _ (heap_alloc2_new w _ _) Try.underlying113 rfl hi41.out ?_) | (refine wpList_store_row rfl 113 _ _ rfl w.heap.size (tbRow 256) rfl rfl 113 (tbRow 0) (heap_alloc2_old w _ _) hi41.out (by rw [tbRow_size, tbRow_size]) (tbRow_one 256) ?_))
      refine bodyPost_ret (v := .agg (tbRow 256)) ?_ rfl ⟨rfl, ?_⟩
      · refine results_cell_row (p := 0) (ty := 113) rfl _ _ w.heap.size 113 (tbRow 256) (0, 0) _ rfl ?_ Try.underlying113 rfl hi41.out
        exact setRow_heap _ _ _ _ _ _ (heap_alloc2_old w _ _)
      · exact below_setRow (((Below.refl _ _).alloc (Nat.le_refl _) _).alloc (by simp) _) (Nat.le_refl _) _
    | succ g =>
      have hi : i < 256 := by omega
      have hiz : (i : Int) < 256 := by omega
      have hm : (i : Int) % 4294967296 = i := by omega
      have HT := Lib.hid (tbRow_set i)
      clear z41
      go_wp2
      go_loopg [4, 10] 8 (fun gj s4 s10 wx => ∃ j : Nat, j + gj = 8 ∧ s10 = .int .i64 j ∧ s4 = .int .u32 (tqs j (i : Int)) ∧ wx = (w.alloc (.cells (tbRow 0) 113)).alloc (.cells (tbRow i) 113))
      case atStart => exact ⟨0, by omega, rfl, rfl, rfl⟩
      case round =>
        obtain ⟨j, hjg, rfl, rfl, rfl⟩ := hrel
        cases gk with
        | zero =>
          obtain rfl : j = 8 := by omega
          have hjz : ¬ ((8 : Int) < 8) := by omega
          clear hjg
          have hcell := tbRow_at0 i hi
          go_wp2
          go_roundg g
          case measure => omega
          case rel => exact ⟨i + 1, by omega, by go_num, by rw [← HT.out]; rfl⟩
        | succ gj =>
          have hjz : (j : Int) < 8 := by omega
          go_wp2_with (go_at_call 78; refine (turn_calls _ _).mono ?_; rintro e w' ⟨rfl, rfl⟩)
          go_roundg gj
          case measure => omega
          case rel => exact ⟨j + 1, by omega, by go_num, rfl, rfl⟩

set_option maxHeartbeats 4000000 in
set_option maxRecDepth 1000000 in
theorem more_calls (c : Int) (s : ByteArray) (w : World) (hs : s.size ≤ 9223372036854775807) (hc : 0 ≤ c ∧ c < 4294967296) :
    Calls Try.prog 62 #[.int .u32 c, .string s] w fun e w' => e = .returned (.int .u32 (mores c s.data.toList)) ∧ Below w.heap.size w w' := by
  have z41 := zero41.1
  rw [← tbRow_zero] at z41
  go_enter Try.func62, Try.ntmps62
  go_wp2_with fail
  refine (table_calls _).mono ?_
  rintro e w1 ⟨rfl, hb⟩
  have hi41 := Lib.hid (show (Try.prog.info? 113).map (·.size) = some (tbRow 256).size by rw [tbRow_size]; exact zero41.2)
  go_wp2_with (refine wpList_store_row rfl 113 _ _ rfl w1.heap.size (tbRow 256) rfl rfl 113 (tbRow 0) (heap_alloc_last w1 _) hi41.out (by rw [tbRow_size, tbRow_size]) (tbRow_one 256) ?_; rw [World.setRow_alloc_new])
  clear z41 hi41
  have HW := Lib.hid ((show Below w.heap.size w (w1.alloc (.cells (tbRow 256) 113)) from hb.alloc hb.size _))
  clear hb
  generalize hW : w1.alloc (.cells (tbRow 256) 113) = W at *
  have hcell : ∀ j : Nat, j < 256 → W.cell? ⟨w1.heap.size, j, none⟩ = some (.int .u32 (tb (j : Int))) := fun j hj => by
    rw [← hW, cell_of_row _ w1.heap.size j (tbRow 256) _ (0, 0) (heap_alloc_last w1 _)]
    exact tbRow_at j hj
  clear hW
  have HC := Lib.hid hcell
  clear hcell
  go_loopg [0, 10] s.size (fun g v0 v10 wx => ∃ (i : Nat) (x : Int), i + g = s.size ∧ v10 = .int .i64 i ∧ v0 = .int .u32 x ∧ Hid (x = mores c (s.data.toList.take i)) ∧ wx = W)
  case atStart => exact ⟨0, c, by omega, rfl, rfl, Lib.hid rfl, rfl⟩
  case round =>
    obtain ⟨i, x, hig, rfl, rfl, HX, rfl⟩ := hrel
    have hx0 : 0 ≤ x := by rw [HX.out]; exact (mores_range c hc _).1
    have hx1 : x < 4294967296 := by rw [HX.out]; exact (mores_range c hc _).2
    cases gk with
    | zero =>
      obtain rfl : i = s.size := by omega
      have hiz : ¬ ((s.size : Int) < (s.size : Int)) := by omega
      clear hig
      go_wp2
      go_ret
      refine ⟨?_, HW.out⟩
      rw [HX.out, List.take_of_length_le (by simp)]
      rfl
    | succ g =>
      have hi : i < s.size := by omega
      have hiz : (i : Int) < (s.size : Int) := by omega
      obtain ⟨q, hq⟩ : ∃ q : Nat, (q : Int) = Go.bits .xor .u8 (x % 256) (s[i].toNat : Int) := ⟨(Go.bits .xor .u8 (x % 256) (s[i].toNat : Int)).toNat, by have := bits_u8_range .xor (x % 256) (s[i].toNat : Int); omega⟩
      have hqb : q < 256 := by have := bits_u8_range .xor (x % 256) (s[i].toNat : Int); omega
      have hc1 := HC.out q hqb
      have hq2 := hq.symm
      have HQ := Lib.hid hq
      clear hq
      go_wp2
      go_roundg g
      case measure => omega
      case rel =>
        refine ⟨i + 1, _, by omega, by go_num, rfl, Lib.hid ?_, rfl⟩
        rw [take_snoc_b s i hi, mores_snoc, ← HX.out, mb, ← HQ.out]
theorem seal_More.calls (a0 : Int) (a1 : ByteArray) (r : Int) (w : World) (h : seal_More.f a0 a1 = some r) :
    Calls Try.prog 62 #[.int .u32 a0, .string a1] w fun e w' => e = .returned (.int .u32 r) ∧ Below w.heap.size w w' := by
  unfold seal_More.f at h
  split at h
  · rename_i hh
    obtain rfl := Option.some.inj h
    exact more_calls a0 a1 w hh.1 hh.2
  · cases h
end Go.Proofs.Ytcbfnfggnocndaa
end

section
/- The plain mathematics of check sums: the table and the bit by bit way come to the same; a turn is linear and loses nothing. -/
namespace Go.Proofs.Ytcbfnfggnocndaa
open Go.RowKit

def P32 : Nat := 2197175160
def tqN (c : Nat) : Nat := if c % 2 = 1 then (c / 2) ^^^ P32 else c / 2
def tqsN : Nat → Nat → Nat
  | 0, c => c
  | n + 1, c => tqN (tqsN n c)
theorem tqN_lt {c : Nat} (h : c < 4294967296) : tqN c < 4294967296 := by
  unfold tqN
  split
  · exact Nat.xor_lt_two_pow (n := 32) (by omega) (by decide)
  · omega
theorem tqsN_lt {c : Nat} (h : c < 4294967296) (n : Nat) : tqsN n c < 4294967296 := by
  induction n with
  | zero => exact h
  | succ n ih => exact tqN_lt ih
theorem tq_nat {c : Nat} (h : c < 4294967296) : tq (c : Int) = (tqN c : Int) := by
  unfold tq tqN
  have e1 : Go.bits .and .u32 (c : Int) 1 = ((c % 2 : Nat) : Int) := by
    have := u32_and_nat c 1 h (by decide)
    rw [nat_mask1] at this
    exact this
  rw [e1]
  by_cases h1 : c % 2 = 1
  · rw [if_pos (by omega), if_pos h1, show ((c : Int) / 2) = ((c / 2 : Nat) : Int) from by omega, show (2197175160 : Int) = ((P32 : Nat) : Int) from rfl, u32_xor_nat _ _ (by omega) (by decide)]
  · rw [if_neg (by omega), if_neg h1]; omega
theorem tqs_nat {c : Nat} (h : c < 4294967296) (n : Nat) : tqs n (c : Int) = (tqsN n c : Int) := by
  induction n with
  | zero => rfl
  | succ n ih => show tq (tqs n c) = _; rw [ih, tq_nat (tqsN_lt h n)]; rfl
theorem xor_div2 (a b : Nat) : (a ^^^ b) / 2 = (a / 2) ^^^ (b / 2) := by
  have := Nat.shiftRight_xor_distrib (a := a) (b := b) (i := 1)
  simpa [Nat.shiftRight_eq_div_pow] using this
theorem xor_mod2 (a b : Nat) : (a ^^^ b) % 2 = (a % 2 + b % 2) % 2 := by
  have h := Nat.testBit_xor a b 0
  simp only [Nat.testBit_zero] at h
  have ha : a % 2 = 0 ∨ a % 2 = 1 := by omega
  have hb : b % 2 = 0 ∨ b % 2 = 1 := by omega
  have hx : (a ^^^ b) % 2 = 0 ∨ (a ^^^ b) % 2 = 1 := by omega
  rcases ha with ha | ha <;> rcases hb with hb | hb <;> rcases hx with hx | hx <;> simp [ha, hb, hx] at h ⊢
theorem tqN_xor (a b : Nat) : tqN (a ^^^ b) = tqN a ^^^ tqN b := by
  unfold tqN
  rw [xor_div2, xor_mod2]
  have ha : a % 2 = 0 ∨ a % 2 = 1 := by omega
  have hb : b % 2 = 0 ∨ b % 2 = 1 := by omega
  rcases ha with ha | ha <;> rcases hb with hb | hb <;> simp only [ha, hb] <;> simp only [Nat.reduceAdd, Nat.reduceMod, Nat.zero_ne_one, if_true, if_false]
  · rw [Nat.xor_assoc]
  · rw [Nat.xor_assoc, Nat.xor_assoc, Nat.xor_comm P32]
  · rw [Nat.xor_assoc, Nat.xor_comm P32 (b / 2 ^^^ P32), Nat.xor_assoc, Nat.xor_self, Nat.xor_zero]
theorem tqsN_xor (n a b : Nat) : tqsN n (a ^^^ b) = tqsN n a ^^^ tqsN n b := by
  induction n with
  | zero => rfl
  | succ n ih => show tqN _ = tqN _ ^^^ tqN _; rw [ih, tqN_xor]
theorem tqsN_succ (n c : Nat) : tqsN (n + 1) c = tqsN n (tqN c) := by
  induction n with
  | zero => rfl
  | succ n ih => show tqN (tqsN (n + 1) c) = tqN (tqsN n (tqN c)); rw [ih]
theorem tqsN_mul (n y : Nat) : tqsN n (y * 2 ^ n) = y := by
  induction n with
  | zero => show y * 1 = y; omega
  | succ n ih =>
    rw [tqsN_succ]
    have : tqN (y * 2 ^ (n + 1)) = y * 2 ^ n := by
      unfold tqN
      rw [Nat.pow_succ, show y * (2 ^ n * 2) = 2 * (y * 2 ^ n) from by rw [Nat.mul_comm (2 ^ n) 2, ← Nat.mul_assoc, Nat.mul_comm y 2, Nat.mul_assoc], if_neg (by omega)]
      omega
    rw [this, ih]
/-- Bit by bit: what the document says. -/
def mbN (c b : Nat) : Nat := tqsN 8 (c ^^^ b)
def moresN (c : Nat) (l : List UInt8) : Nat := l.foldl (fun c b => mbN c b.toNat) c
theorem split8 (c : Nat) : c = (c % 256) ^^^ (c / 256 * 2 ^ 8) := by
  have h := Nat.two_pow_add_eq_or_of_lt (i := 8) (b := c % 256) (by omega) (c / 256)
  apply Nat.eq_of_testBit_eq
  intro i
  rw [Nat.testBit_xor, show (256 : Nat) = 2 ^ 8 from rfl, Nat.testBit_mod_two_pow, Nat.testBit_mul_two_pow, Nat.testBit_div_two_pow]
  by_cases hi : i < 8
  · simp [hi, show ¬ 8 ≤ i from by omega]
  · simp [hi, show 8 ≤ i from by omega]
theorem mb_nat {c : Nat} (h : c < 4294967296) (b : UInt8) : mb (c : Int) (b.toNat : Int) = (mbN c b.toNat : Int) := by
  have hb := b.toNat_lt
  unfold mb tb mbN
  rw [show ((c : Int) % 256) = ((c % 256 : Nat) : Int) from by omega, u8_xor_nat _ _ (by omega) (by omega), show ((c : Int) / 256) = ((c / 256 : Nat) : Int) from by omega]
  have h1 : (c % 256 ^^^ b.toNat) < 256 := Nat.xor_lt_two_pow (n := 8) (by omega) (by omega)
  rw [tqs_nat (by omega), u32_xor_nat _ _ (tqsN_lt (by omega) 8) (by omega)]
  congr 1
  have e : c ^^^ b.toNat = (c % 256 ^^^ b.toNat) ^^^ (c / 256 * 2 ^ 8) := by
    conv => lhs; rw [split8 c]
    rw [Nat.xor_assoc, Nat.xor_assoc, Nat.xor_comm (c / 256 * 2 ^ 8)]
  rw [e, tqsN_xor 8 (c % 256 ^^^ b.toNat), tqsN_mul]
theorem mbN_lt {c : Nat} (h : c < 4294967296) (b : UInt8) : mbN c b.toNat < 4294967296 := by
  have hb := b.toNat_lt
  exact tqsN_lt (Nat.xor_lt_two_pow (n := 32) h (by omega)) 8
theorem mores_nat (l : List UInt8) : ∀ {c : Nat}, c < 4294967296 → mores (c : Int) l = (moresN c l : Int) ∧ moresN c l < 4294967296 := by
  induction l with
  | nil => intro c h; exact ⟨rfl, h⟩
  | cons b l ih =>
    intro c h
    have h2 := ih (mbN_lt h b)
    refine ⟨?_, h2.2⟩
    show mores (mb c b.toNat) l = _
    rw [mb_nat h]; exact h2.1
end Go.Proofs.Ytcbfnfggnocndaa
end

section
/- The machine's side of laws of this seat: Go functions as Lean functions, and the proof that a call of each comes to what its function says (written by a program of this session, px.py, that runs the kit's print). -/
namespace Go.Proofs.Ytcbfnfggnocndaa.U
open Go.RowKit Go.Proofs.YtcbfnfggnocndaaW.PrintWords Go.Proofs.YtcbfnfggnocndaaW.PrintLast Go.Proofs.YtcbfnfggnocndaaW.PrintMore
attribute [local go_sem] max2_int min2_int max_two min_two max_three min_three max_four min_four   -- for this text's walks alone
attribute [local go_sem high] Go.Proofs.Ytcbfnfggnocndaa.px_xor_u8 Go.Proofs.Ytcbfnfggnocndaa.px_xor_u16 Go.Proofs.Ytcbfnfggnocndaa.px_xor_u32 Go.Proofs.Ytcbfnfggnocndaa.px_xor_u64
set_option linter.unusedVariables false
set_option linter.unusedSimpArgs false



def errW : Option Int → Value
  | none => .nilIface
  | some c => .iface 0 (.int .i64 c)
theorem errW_none : errW none = .nilIface := rfl
theorem errW_some (c : Int) : errW (some c) = .iface 0 (.int .i64 c) := rfl

theorem info5 : (Try.prog.info? 5).map (fun i => (i.zero, i.size, i.bytes)) = some (some (.int .u8 0), 1, 1) := by kernel_rfl
-- the values' own types

end Go.Proofs.Ytcbfnfggnocndaa.U
end

section
/- The machine's side of laws of this seat: Go functions as Lean functions, and the proof that a call of each comes to what its function says (written by a program of this session, px.py, that runs the kit's print). -/
namespace Go.Proofs.Ytcbfnfggnocndaa.U
open Go.RowKit Go.Proofs.YtcbfnfggnocndaaW.PrintWords Go.Proofs.YtcbfnfggnocndaaW.PrintLast Go.Proofs.YtcbfnfggnocndaaW.PrintMore
attribute [local go_sem] max2_int min2_int max_two min_two max_three min_three max_four min_four   -- for this text's walks alone
attribute [local go_sem high] Go.Proofs.Ytcbfnfggnocndaa.px_xor_u8 Go.Proofs.Ytcbfnfggnocndaa.px_xor_u16 Go.Proofs.Ytcbfnfggnocndaa.px_xor_u32 Go.Proofs.Ytcbfnfggnocndaa.px_xor_u64
set_option linter.unusedVariables false
set_option linter.unusedSimpArgs false

/-! ### seal_four: function 51 -/
def seal_four.f (a0 : Int) : Option (ByteArray) := some (strOfNums (([(a0) % 256, (a0 / 256) % 256, (a0 / 65536) % 256, (a0 / 16777216) % 256] : List Int)))
set_option maxHeartbeats 8000000 in
set_option maxRecDepth 100000 in
theorem seal_four.calls (a0 : Int) (r : ByteArray) (w : World) (h : seal_four.f a0 = some r) :
    Calls Try.prog 51 #[.int .u32 a0] w fun e w' => e = .returned (.string r) ∧ Below w.heap.size w w' := by
  have HB := Aside0.mk (Below.refl w.heap.size w)
  have H : (some (strOfNums (([(a0) % 256, (a0 / 256) % 256, (a0 / 65536) % 256, (a0 / 16777216) % 256] : List Int)))) = some r := h
  clear h
  obtain ⟨y101, hy101⟩ : ∃ y_ : List Int, y_ = (([(a0) % 256, (a0 / 256) % 256, (a0 / 65536) % 256, (a0 / 16777216) % 256] : List Int)) := ⟨_, rfl⟩
  replace H : (some (strOfNums y101)) = some r := by first | (rw [hy101]; with_reducible exact H) | (have H2_ := (Option.bind_some _ _).symm.trans H; rw [hy101]; with_reducible exact H2_) | (have H2_ := (Option.bind_some _ _).symm.trans H; with_reducible exact H2_) | with_reducible exact H | (rw [hy101]; exact H) | exact H
  have Ny101 := Aside0.mk hy101
  clear hy101
  obtain rfl := Option.some.inj H
  go_enter Try.func51, Try.ntmps51
  go_wp2_with (first | ((with_reducible refine gate_dst (N := 14) rfl ?_); refine Kd.R_lit (Kd.int .u8) _ 5 ?hg (N := 14) ?hd (xs := ([(a0) % 256, (a0 / 256) % 256, (a0 / 65536) % 256, (a0 / 16777216) % 256] : List Int)) (inner := [.int .u8 ((a0) % 256), .int .u8 ((a0 / 256) % 256), .int .u8 ((a0 / 65536) % 256), .int .u8 ((a0 / 16777216) % 256)]) (ok := fun _ => True) (okp := fun _ => True) ?hr ?hp (fun _ hk => hk) trivial (Below.refl _ _) (Nat.le_refl _) (by simp) ?_; (case hd => rfl); (case hg => rfl); (case hr => first | (go_simp; done) | (go_simp; rfl)); (case hp => exact (Reps.one (show Kd.M (Kd.int .u8) _ _ _ ((a0) % 256) [.int .u8 ((a0) % 256)] from rfl) (Reps.one (show Kd.M (Kd.int .u8) _ _ _ ((a0 / 256) % 256) [.int .u8 ((a0 / 256) % 256)] from rfl) (Reps.one (show Kd.M (Kd.int .u8) _ _ _ ((a0 / 65536) % 256) [.int .u8 ((a0 / 65536) % 256)] from rfl) (Reps.one (show Kd.M (Kd.int .u8) _ _ _ ((a0 / 16777216) % 256) [.int .u8 ((a0 / 16777216) % 256)] from rfl) (Reps.none _ _)))))); intro v102 w2 ho3 hb hg_ hnew_; clear hg_ hnew_; (first | rw [← Ny101.out] at ho3 | (simp only [Int.reduceToNat] at ho3; rw [← Ny101.out] at ho3)); have n0_ := Aside0.mk (Kd.R_lower ho3 (below_size (by repeat (first | (with_reducible first | exact HB.out | apply below_alloc | apply pw_below_drewN | apply below_drew1) | exact HB.out)))); have n1_ := Aside0.mk (below_step (by repeat (first | (with_reducible first | exact HB.out | apply below_alloc | apply pw_below_drewN | apply below_drew1) | exact HB.out)) hb); clear HB; have HO103 := n0_; have HB := n1_; clear n0_ n1_; clear hb ho3; have hcv4 := own_string (P := Try.prog) Try.underlying71 Try.underlying5 Try.underlying9 (Kd.own_of_R HO103.out)))
  go_ret
  exact ⟨by first | rfl | (simp [errW_none, errW_some] <;> rfl) | (simp [*, errW_none, errW_some] <;> rfl), by repeat (first | (with_reducible first | exact HB.out | apply below_alloc | apply pw_below_drewN | apply below_drew1) | exact HB.out)⟩

-- GIVEN: function 62 (seal_More): its Lean function and its contract stand in a text of this session's

/-! ### seal_Sum: function 52 -/
def seal_Sum.f (a0 : ByteArray) : Option (Int) := (seal_More.f 4294967295 a0).bind fun t104 => (some (Go.bits .xor .u32 4294967295 t104))
set_option maxHeartbeats 8000000 in
set_option maxRecDepth 100000 in
theorem seal_Sum.calls (a0 : ByteArray) (r : Int) (w : World) (h : seal_Sum.f a0 = some r) :
    Calls Try.prog 52 #[.string a0] w fun e w' => e = .returned (.int .u32 r) ∧ Below w.heap.size w w' := by
  have HB := Aside0.mk (Below.refl w.heap.size w)
  have H : ((seal_More.f 4294967295 a0).bind fun t104 => (some (Go.bits .xor .u32 4294967295 t104))) = some r := h
  clear h
  replace H := Option.bind_eq_some_iff.mp H
  obtain ⟨t104, A20, H⟩ := H
  replace H : (some (Go.bits .xor .u32 4294967295 t104)) = some r := H
  have A2 := Aside0.mk A20
  clear A20
  obtain rfl := Option.some.inj H
  go_enter Try.func52, Try.ntmps52
  go_wp2_with (first | ((with_reducible refine gate_callee (f := 62) rfl ?_); refine goesL_ (some 4) rfl rfl Try.func62 (by kernel_rfl) rfl #[.int .u32 4294967295, .string a0] rfl (by (try simp only [List.map_toArray, List.map_cons, List.map_nil]); first | done | rfl | (simp only [List.length_drop, List.length_take]; rfl)) ?_; (with_reducible refine (seal_More.calls 4294967295 a0 t104 _ A2.out).mono ?_); rintro e w3 ⟨rfl, hb⟩; refine ⟨_, rfl, ?_⟩; have n0_ := Aside0.mk (below_step (by repeat (first | (with_reducible first | exact HB.out | apply below_alloc | apply pw_below_drewN | apply below_drew1) | exact HB.out)) hb); clear HB; have HB := n0_; clear n0_; (try clear hb); (try clear hb2); (try clear hk); (try clear hi)))
  go_ret
  exact ⟨by first | rfl | (simp [errW_none, errW_some] <;> rfl) | (simp [*, errW_none, errW_some] <;> rfl), by repeat (first | (with_reducible first | exact HB.out | apply below_alloc | apply pw_below_drewN | apply below_drew1) | exact HB.out)⟩

/-! ### seal_Put: function 34 -/
def seal_Put.f (a0 : ByteArray) : Option (ByteArray) := (seal_Sum.f a0).bind fun t105 => ((seal_four.f t105).bind fun t106 => (if a0.size + t106.size ≤ 9223372036854775807 then (some (a0 ++ t106)) else (none)))
set_option maxHeartbeats 8000000 in
set_option maxRecDepth 100000 in
theorem seal_Put.calls (a0 : ByteArray) (r : ByteArray) (w : World) (h : seal_Put.f a0 = some r) :
    Calls Try.prog 34 #[.string a0] w fun e w' => e = .returned (.string r) ∧ Below w.heap.size w w' := by
  have HB := Aside0.mk (Below.refl w.heap.size w)
  have H : ((seal_Sum.f a0).bind fun t105 => ((seal_four.f t105).bind fun t106 => (if a0.size + t106.size ≤ 9223372036854775807 then (some (a0 ++ t106)) else (none)))) = some r := h
  clear h
  replace H := Option.bind_eq_some_iff.mp H
  obtain ⟨t105, A20, H⟩ := H
  replace H : ((seal_four.f t105).bind fun t106 => (if a0.size + t106.size ≤ 9223372036854775807 then (some (a0 ++ t106)) else (none))) = some r := H
  have A2 := Aside0.mk A20
  clear A20
  replace H := Option.bind_eq_some_iff.mp H
  obtain ⟨t106, A30, H⟩ := H
  replace H : (if a0.size + t106.size ≤ 9223372036854775807 then (some (a0 ++ t106)) else (none)) = some r := H
  have A3 := Aside0.mk A30
  clear A30
  by_cases c4 : a0.size + t106.size ≤ 9223372036854775807
  · rw [if_pos c4] at H
    have c4b0 := eq_true c4
    have c4b1 : decide (a0.size + t106.size ≤ 9223372036854775807) = true := decide_eq_true c4
    try have c4b2 : (9223372036854775807 < a0.size + t106.size) = False := eq_false (Nat.not_lt.2 c4)
    obtain rfl := Option.some.inj H
    go_enter Try.func34, Try.ntmps34
    go_wp2_with (first | ((with_reducible refine gate_callee (f := 52) rfl ?_); refine goesL_ (some 5) rfl rfl Try.func52 (by kernel_rfl) rfl #[.string a0] rfl (by (try simp only [List.map_toArray, List.map_cons, List.map_nil]); first | done | rfl | (simp only [List.length_drop, List.length_take]; rfl)) ?_; (with_reducible refine (seal_Sum.calls a0 t105 _ A2.out).mono ?_); rintro e w5 ⟨rfl, hb⟩; refine ⟨_, rfl, ?_⟩; have n0_ := Aside0.mk (below_step (by repeat (first | (with_reducible first | exact HB.out | apply below_alloc | apply pw_below_drewN | apply below_drew1) | exact HB.out)) hb); clear HB; have HB := n0_; clear n0_; (try clear hb); (try clear hb2); (try clear hk); (try clear hi)) | ((with_reducible refine gate_callee (f := 51) rfl ?_); refine goesL_ (some 6) rfl rfl Try.func51 (by kernel_rfl) rfl #[.int .u32 t105] rfl (by (try simp only [List.map_toArray, List.map_cons, List.map_nil]); first | done | rfl | (simp only [List.length_drop, List.length_take]; rfl)) ?_; (with_reducible refine (seal_four.calls t105 t106 _ A3.out).mono ?_); rintro e w6 ⟨rfl, hb⟩; refine ⟨_, rfl, ?_⟩; have n0_ := Aside0.mk (below_step (by repeat (first | (with_reducible first | exact HB.out | apply below_alloc | apply pw_below_drewN | apply below_drew1) | exact HB.out)) hb); clear HB; have HB := n0_; clear n0_; (try clear hb); (try clear hb2); (try clear hk); (try clear hi)))
    go_ret
    exact ⟨by first | rfl | (simp [errW_none, errW_some] <;> rfl) | (simp [*, errW_none, errW_some] <;> rfl), by repeat (first | (with_reducible first | exact HB.out | apply below_alloc | apply pw_below_drewN | apply below_drew1) | exact HB.out)⟩
  · rw [if_neg c4] at H
    exact absurd H (by simp)

end Go.Proofs.Ytcbfnfggnocndaa.U
end

section
/- What the printed functions of layer 2 come to, in closed form (at the seats of the layers above). -/
set_option linter.unusedVariables false
set_option linter.unusedSimpArgs false
namespace Go.Proofs.Ytcbfnfggnocndaa
open Go.RowKit Go.Proofs.Ytcbfnfggnocndaa.U Go.Proofs.YtcbfnfggnocndaaW.PrintWords Go.Proofs.YtcbfnfggnocndaaW.PrintLast Math

theorem seal_More_eq (s : ByteArray) (hs : s.size ≤ 9223372036854775807) (c : Nat) (hc : c < 4294967296) : seal_More.f (c : Int) s = some ((moresN c s.data.toList : Nat) : Int) := by
  unfold seal_More.f
  rw [if_pos ⟨hs, by omega, by omega⟩, (mores_nat _ hc).1]

def sumN (s : ByteArray) : Nat := moresN 4294967295 s.data.toList ^^^ 4294967295
theorem seal_Sum_eq (s : ByteArray) (hs : s.size ≤ 9223372036854775807) : seal_Sum.f s = some ((sumN s : Nat) : Int) := by
  unfold seal_Sum.f
  have h := seal_More_eq s hs 4294967295 (by decide)
  have h2 := (mores_nat s.data.toList (c := 4294967295) (by decide)).2
  rw [show ((4294967295 : Nat) : Int) = 4294967295 from rfl] at h
  rw [h]
  simp only [Option.bind_some]
  have e : Go.bits .xor .u32 4294967295 ((moresN 4294967295 s.data.toList : Nat) : Int) = ((sumN s : Nat) : Int) := by
    have := u32_xor_nat 4294967295 (moresN 4294967295 s.data.toList) (by decide) h2
    rw [Nat.xor_comm] at this
    exact this
  rw [e]
def fourS (c : Nat) : ByteArray := strOfNums [(c : Int) % 256, (c : Int) / 256 % 256, (c : Int) / 65536 % 256, (c : Int) / 16777216 % 256]
theorem fourS_size (c : Nat) : (fourS c).size = 4 := by unfold fourS; rw [nums_size]; rfl
theorem seal_four_eq (c : Nat) : seal_four.f (c : Int) = some (fourS c) := rfl
theorem ofNat_inj {a b : Nat} (ha : a < 256) (hb : b < 256) (h : UInt8.ofNat a = UInt8.ofNat b) : a = b := by
  have h2 := congrArg UInt8.toNat h
  rw [UInt8.toNat_ofNat', UInt8.toNat_ofNat'] at h2
  omega
def putS (s : ByteArray) : ByteArray := s ++ fourS (sumN s)
theorem putS_size (s : ByteArray) : (putS s).size = s.size + 4 := by unfold putS; rw [app_size, fourS_size]
theorem seal_Put_eq (s : ByteArray) (hs : s.size ≤ 9223372036854775803) : seal_Put.f s = some (putS s) := by
  unfold seal_Put.f
  rw [seal_Sum_eq s (by omega)]
  simp only [Option.bind_some]
  rw [seal_four_eq]
  simp only [Option.bind_some]
  rw [if_pos (by rw [fourS_size]; omega)]
  rfl
def takeS (s : ByteArray) : ByteArray × Int :=
  if s.size < 4 then (⟨#[]⟩, 2)
  else if (fourS (sumN (s.extract 0 (s.size - 4)))).data.toList = (s.extract (s.size - 4) s.size).data.toList then (s.extract 0 (s.size - 4), 0)
  else (⟨#[]⟩, 4)
/-- What was put is taken. -/
theorem take_put (s : ByteArray) : takeS (putS s) = (s, 0) := by
  have e1 : (putS s).extract 0 ((putS s).size - 4) = s := by
    apply inj
    rw [ext_, putS_size, putS, app, List.drop_zero, show s.size + 4 - 4 = s.data.toList.length from by rw [← sz]; omega, List.take_left']
    rfl
  unfold takeS
  rw [if_neg (by rw [putS_size]; omega), e1, if_pos]
  rw [ext_, putS_size, List.take_of_length_le (by rw [putS, app, List.length_append, ← sz, ← sz, fourS_size]; omega), putS, app, show s.size + 4 - 4 = s.data.toList.length from by rw [← sz]; omega, List.drop_left']
  rfl
end Go.Proofs.Ytcbfnfggnocndaa
end

section
/- The machine's side of laws of this seat: Go functions as Lean functions, and the proof that a call of each comes to what its function says (written by a program of this session, px.py, that runs the kit's print). -/
namespace Go.Proofs.Ytcbfnfggnocndaa.V
open Go.RowKit Go.Proofs.YtcbfnfggnocndaaW.PrintWords Go.Proofs.YtcbfnfggnocndaaW.PrintLast Go.Proofs.YtcbfnfggnocndaaW.PrintMore
attribute [local go_sem] max2_int min2_int max_two min_two max_three min_three max_four min_four   -- for this text's walks alone
attribute [local go_sem high] Go.Proofs.Ytcbfnfggnocndaa.px_xor_u8 Go.Proofs.Ytcbfnfggnocndaa.px_xor_u16 Go.Proofs.Ytcbfnfggnocndaa.px_xor_u32 Go.Proofs.Ytcbfnfggnocndaa.px_xor_u64
set_option linter.unusedVariables false
set_option linter.unusedSimpArgs false



def errW : Option Int → Value
  | none => .nilIface
  | some c => .iface 0 (.int .i64 c)
theorem errW_none : errW none = .nilIface := rfl
theorem errW_some (c : Int) : errW (some c) = .iface 0 (.int .i64 c) := rfl

theorem info5 : (Try.prog.info? 5).map (fun i => (i.zero, i.size, i.bytes)) = some (some (.int .u8 0), 1, 1) := by kernel_rfl
-- the values' own types
/-! #### struct type 88 -/
structure S88 where
  f0 : Int
  f1 : ByteArray
def z88 : S88 := ⟨(0 : Int), (⟨#[]⟩ : ByteArray)⟩
def k88 : Kd S88 := Kd.iso (Kd.pair (Kd.int .i64) Kd.string) (fun x : S88 => (x.f0, x.f1))
theorem k88_open {w : World} {x : S88} {cs : List Value} (h : k88.K w x cs) : cs = [.int .i64 x.f0, .string x.f1] := by
  obtain ⟨_, _, rfl, rfl, rfl⟩ := h
  exact rfl
theorem k88_mkM (w : World) (base : Nat) (ok : Nat → Prop) (x : S88)  : k88.M w base ok x [.int .i64 x.f0, .string x.f1] := ⟨[.int .i64 x.f0], [.string x.f1], rfl, rfl, rfl⟩
def rd_T88 (xs : List S88) (i : Int) : S88 := xs.getD i.toNat z88
theorem at_T88 {w : World} {A : Option Addr} {n : Nat} {xs : List S88} (h : Kd.C k88 w A n xs) (i : Int) (h0 : 0 ≤ i) (h1 : i < n) : ∃ ad , A = some ad ∧ w.cell? (ad.add (i.toNat * 2)) = some (.int .i64 (rd_T88 xs i).f0) ∧ w.cell? ⟨(ad.add (i.toNat * 2)).block, (ad.add (i.toNat * 2)).off + 1, none⟩ = some (.string (rd_T88 xs i).f1) := by
  obtain ⟨ad, c, e, _, hK, hc0⟩ := Kd.C_get h z88 i h0 h1
  have hc : ∀ j u, c[j]? = some u → w.cell? (ad.add (i.toNat * 2 + j)) = some u := hc0
  obtain rfl := k88_open hK
  exact ⟨ad, e, hc 0 _ rfl, by rw [← add_field _ _ 1 (by omega)]; exact hc 1 _ rfl⟩

end Go.Proofs.Ytcbfnfggnocndaa.V
end

section
/- The machine's side of laws of this seat: Go functions as Lean functions, and the proof that a call of each comes to what its function says (written by a program of this session, px.py, that runs the kit's print). -/
namespace Go.Proofs.Ytcbfnfggnocndaa.V
open Go.RowKit Go.Proofs.YtcbfnfggnocndaaW.PrintWords Go.Proofs.YtcbfnfggnocndaaW.PrintLast Go.Proofs.YtcbfnfggnocndaaW.PrintMore
attribute [local go_sem] max2_int min2_int max_two min_two max_three min_three max_four min_four   -- for this text's walks alone
attribute [local go_sem high] Go.Proofs.Ytcbfnfggnocndaa.px_xor_u8 Go.Proofs.Ytcbfnfggnocndaa.px_xor_u16 Go.Proofs.Ytcbfnfggnocndaa.px_xor_u32 Go.Proofs.Ytcbfnfggnocndaa.px_xor_u64
set_option linter.unusedVariables false
set_option linter.unusedSimpArgs false

/-! ### seal_four: function 51 -/
def seal_four.f (a0 : Int) : Option (ByteArray) := some (strOfNums (([(a0) % 256, (a0 / 256) % 256, (a0 / 65536) % 256, (a0 / 16777216) % 256] : List Int)))
set_option maxHeartbeats 8000000 in
set_option maxRecDepth 100000 in
theorem seal_four.calls (a0 : Int) (r : ByteArray) (w : World) (h : seal_four.f a0 = some r) :
    Calls Try.prog 51 #[.int .u32 a0] w fun e w' => e = .returned (.string r) ∧ Below w.heap.size w w' := by
  have HB := Aside0.mk (Below.refl w.heap.size w)
  have H : (some (strOfNums (([(a0) % 256, (a0 / 256) % 256, (a0 / 65536) % 256, (a0 / 16777216) % 256] : List Int)))) = some r := h
  clear h
  obtain ⟨y101, hy101⟩ : ∃ y_ : List Int, y_ = (([(a0) % 256, (a0 / 256) % 256, (a0 / 65536) % 256, (a0 / 16777216) % 256] : List Int)) := ⟨_, rfl⟩
  replace H : (some (strOfNums y101)) = some r := by first | (rw [hy101]; with_reducible exact H) | (have H2_ := (Option.bind_some _ _).symm.trans H; rw [hy101]; with_reducible exact H2_) | (have H2_ := (Option.bind_some _ _).symm.trans H; with_reducible exact H2_) | with_reducible exact H | (rw [hy101]; exact H) | exact H
  have Ny101 := Aside0.mk hy101
  clear hy101
  obtain rfl := Option.some.inj H
  go_enter Try.func51, Try.ntmps51
  go_wp2_with (first | ((with_reducible refine gate_dst (N := 14) rfl ?_); refine Kd.R_lit (Kd.int .u8) _ 5 ?hg (N := 14) ?hd (xs := ([(a0) % 256, (a0 / 256) % 256, (a0 / 65536) % 256, (a0 / 16777216) % 256] : List Int)) (inner := [.int .u8 ((a0) % 256), .int .u8 ((a0 / 256) % 256), .int .u8 ((a0 / 65536) % 256), .int .u8 ((a0 / 16777216) % 256)]) (ok := fun _ => True) (okp := fun _ => True) ?hr ?hp (fun _ hk => hk) trivial (Below.refl _ _) (Nat.le_refl _) (by simp) ?_; (case hd => rfl); (case hg => rfl); (case hr => first | (go_simp; done) | (go_simp; rfl)); (case hp => exact (Reps.one (show Kd.M (Kd.int .u8) _ _ _ ((a0) % 256) [.int .u8 ((a0) % 256)] from rfl) (Reps.one (show Kd.M (Kd.int .u8) _ _ _ ((a0 / 256) % 256) [.int .u8 ((a0 / 256) % 256)] from rfl) (Reps.one (show Kd.M (Kd.int .u8) _ _ _ ((a0 / 65536) % 256) [.int .u8 ((a0 / 65536) % 256)] from rfl) (Reps.one (show Kd.M (Kd.int .u8) _ _ _ ((a0 / 16777216) % 256) [.int .u8 ((a0 / 16777216) % 256)] from rfl) (Reps.none _ _)))))); intro v102 w2 ho3 hb hg_ hnew_; clear hg_ hnew_; (first | rw [← Ny101.out] at ho3 | (simp only [Int.reduceToNat] at ho3; rw [← Ny101.out] at ho3)); have n0_ := Aside0.mk (Kd.R_lower ho3 (below_size (by repeat (first | (with_reducible first | exact HB.out | apply below_alloc | apply pw_below_drewN | apply below_drew1) | exact HB.out)))); have n1_ := Aside0.mk (below_step (by repeat (first | (with_reducible first | exact HB.out | apply below_alloc | apply pw_below_drewN | apply below_drew1) | exact HB.out)) hb); clear HB; have HO103 := n0_; have HB := n1_; clear n0_ n1_; clear hb ho3; have hcv4 := own_string (P := Try.prog) Try.underlying71 Try.underlying5 Try.underlying9 (Kd.own_of_R HO103.out)))
  go_ret
  exact ⟨by first | rfl | (simp [errW_none, errW_some] <;> rfl) | (simp [*, errW_none, errW_some] <;> rfl), by repeat (first | (with_reducible first | exact HB.out | apply below_alloc | apply pw_below_drewN | apply below_drew1) | exact HB.out)⟩

-- GIVEN: function 62 (seal_More): its Lean function and its contract stand in a text of this session's

/-! ### seal_Sum: function 52 -/
def seal_Sum.f (a0 : ByteArray) : Option (Int) := (seal_More.f 4294967295 a0).bind fun t104 => (some (Go.bits .xor .u32 4294967295 t104))
set_option maxHeartbeats 8000000 in
set_option maxRecDepth 100000 in
theorem seal_Sum.calls (a0 : ByteArray) (r : Int) (w : World) (h : seal_Sum.f a0 = some r) :
    Calls Try.prog 52 #[.string a0] w fun e w' => e = .returned (.int .u32 r) ∧ Below w.heap.size w w' := by
  have HB := Aside0.mk (Below.refl w.heap.size w)
  have H : ((seal_More.f 4294967295 a0).bind fun t104 => (some (Go.bits .xor .u32 4294967295 t104))) = some r := h
  clear h
  replace H := Option.bind_eq_some_iff.mp H
  obtain ⟨t104, A20, H⟩ := H
  replace H : (some (Go.bits .xor .u32 4294967295 t104)) = some r := H
  have A2 := Aside0.mk A20
  clear A20
  obtain rfl := Option.some.inj H
  go_enter Try.func52, Try.ntmps52
  go_wp2_with (first | ((with_reducible refine gate_callee (f := 62) rfl ?_); refine goesL_ (some 4) rfl rfl Try.func62 (by kernel_rfl) rfl #[.int .u32 4294967295, .string a0] rfl (by (try simp only [List.map_toArray, List.map_cons, List.map_nil]); first | done | rfl | (simp only [List.length_drop, List.length_take]; rfl)) ?_; (with_reducible refine (seal_More.calls 4294967295 a0 t104 _ A2.out).mono ?_); rintro e w3 ⟨rfl, hb⟩; refine ⟨_, rfl, ?_⟩; have n0_ := Aside0.mk (below_step (by repeat (first | (with_reducible first | exact HB.out | apply below_alloc | apply pw_below_drewN | apply below_drew1) | exact HB.out)) hb); clear HB; have HB := n0_; clear n0_; (try clear hb); (try clear hb2); (try clear hk); (try clear hi)))
  go_ret
  exact ⟨by first | rfl | (simp [errW_none, errW_some] <;> rfl) | (simp [*, errW_none, errW_some] <;> rfl), by repeat (first | (with_reducible first | exact HB.out | apply below_alloc | apply pw_below_drewN | apply below_drew1) | exact HB.out)⟩

/-! ### seal_Put: function 34 -/
def seal_Put.f (a0 : ByteArray) : Option (ByteArray) := (seal_Sum.f a0).bind fun t105 => ((seal_four.f t105).bind fun t106 => (if a0.size + t106.size ≤ 9223372036854775807 then (some (a0 ++ t106)) else (none)))
set_option maxHeartbeats 8000000 in
set_option maxRecDepth 100000 in
theorem seal_Put.calls (a0 : ByteArray) (r : ByteArray) (w : World) (h : seal_Put.f a0 = some r) :
    Calls Try.prog 34 #[.string a0] w fun e w' => e = .returned (.string r) ∧ Below w.heap.size w w' := by
  have HB := Aside0.mk (Below.refl w.heap.size w)
  have H : ((seal_Sum.f a0).bind fun t105 => ((seal_four.f t105).bind fun t106 => (if a0.size + t106.size ≤ 9223372036854775807 then (some (a0 ++ t106)) else (none)))) = some r := h
  clear h
  replace H := Option.bind_eq_some_iff.mp H
  obtain ⟨t105, A20, H⟩ := H
  replace H : ((seal_four.f t105).bind fun t106 => (if a0.size + t106.size ≤ 9223372036854775807 then (some (a0 ++ t106)) else (none))) = some r := H
  have A2 := Aside0.mk A20
  clear A20
  replace H := Option.bind_eq_some_iff.mp H
  obtain ⟨t106, A30, H⟩ := H
  replace H : (if a0.size + t106.size ≤ 9223372036854775807 then (some (a0 ++ t106)) else (none)) = some r := H
  have A3 := Aside0.mk A30
  clear A30
  by_cases c4 : a0.size + t106.size ≤ 9223372036854775807
  · rw [if_pos c4] at H
    have c4b0 := eq_true c4
    have c4b1 : decide (a0.size + t106.size ≤ 9223372036854775807) = true := decide_eq_true c4
    try have c4b2 : (9223372036854775807 < a0.size + t106.size) = False := eq_false (Nat.not_lt.2 c4)
    obtain rfl := Option.some.inj H
    go_enter Try.func34, Try.ntmps34
    go_wp2_with (first | ((with_reducible refine gate_callee (f := 52) rfl ?_); refine goesL_ (some 5) rfl rfl Try.func52 (by kernel_rfl) rfl #[.string a0] rfl (by (try simp only [List.map_toArray, List.map_cons, List.map_nil]); first | done | rfl | (simp only [List.length_drop, List.length_take]; rfl)) ?_; (with_reducible refine (seal_Sum.calls a0 t105 _ A2.out).mono ?_); rintro e w5 ⟨rfl, hb⟩; refine ⟨_, rfl, ?_⟩; have n0_ := Aside0.mk (below_step (by repeat (first | (with_reducible first | exact HB.out | apply below_alloc | apply pw_below_drewN | apply below_drew1) | exact HB.out)) hb); clear HB; have HB := n0_; clear n0_; (try clear hb); (try clear hb2); (try clear hk); (try clear hi)) | ((with_reducible refine gate_callee (f := 51) rfl ?_); refine goesL_ (some 6) rfl rfl Try.func51 (by kernel_rfl) rfl #[.int .u32 t105] rfl (by (try simp only [List.map_toArray, List.map_cons, List.map_nil]); first | done | rfl | (simp only [List.length_drop, List.length_take]; rfl)) ?_; (with_reducible refine (seal_four.calls t105 t106 _ A3.out).mono ?_); rintro e w6 ⟨rfl, hb⟩; refine ⟨_, rfl, ?_⟩; have n0_ := Aside0.mk (below_step (by repeat (first | (with_reducible first | exact HB.out | apply below_alloc | apply pw_below_drewN | apply below_drew1) | exact HB.out)) hb); clear HB; have HB := n0_; clear n0_; (try clear hb); (try clear hb2); (try clear hk); (try clear hi)))
    go_ret
    exact ⟨by first | rfl | (simp [errW_none, errW_some] <;> rfl) | (simp [*, errW_none, errW_some] <;> rfl), by repeat (first | (with_reducible first | exact HB.out | apply below_alloc | apply pw_below_drewN | apply below_drew1) | exact HB.out)⟩
  · rw [if_neg c4] at H
    exact absurd H (by simp)

/-! ### redo_number: function 35 -/
def redo_number.l0 : Nat → Int → List Int → Int → Option (ByteArray)
  | 0, _, _, _ => none
  | k + 1, x0, x3, x5 => if x5 < 8 then (if 0 ≤ (wrap64 (8 * x5)) then (if x3.length < 140737488355328 then (redo_number.l0 k x0 (x3 ++ [(shr .u64 x0 (wrap64 (8 * x5))) % 256]) (wrap64 (x5 + 1))) else (none)) else (none)) else (some (strOfNums x3))
def redo_number.f (k : Nat) (a0 : Int) : Option (ByteArray) := redo_number.l0 k a0 ([] : List Int) 0
theorem redo_number.mono_l : ∀ k, (∀ y0 y1 y2, LeO (redo_number.l0 k y0 y1 y2) (redo_number.l0 (k + 1) y0 y1 y2))
  | 0 => fun _ _ _ r h => by simp [redo_number.l0] at h
  | k + 1 => by
    have ih0 := redo_number.mono_l k
    · intro y0 y1 y2
      unfold redo_number.l0
      repeat' first
      | (with_reducible exact ih0 _ _ _)
      | (with_reducible exact LeO.refl _)
      | (with_reducible exact LeO.none _)
      | (with_reducible refine LeO.ite ?_ ?_)
      | (with_reducible refine LeO.bind ?_ (fun _ => ?_))
      | exact ih0 _ _ _
      | exact LeO.none _
      | refine LeO.ite ?_ ?_
      | refine LeO.bind ?_ (fun _ => ?_)
theorem redo_number.mono : ∀ a0 k, LeO (redo_number.f k a0) (redo_number.f (k + 1) a0) := by
  intro a0 k
  have ih0 := redo_number.mono_l k
  unfold redo_number.f
  repeat' first
      | (with_reducible exact ih0 _ _ _)
      | (with_reducible exact LeO.refl _)
      | (with_reducible exact LeO.none _)
      | (with_reducible refine LeO.ite ?_ ?_)
      | (with_reducible refine LeO.bind ?_ (fun _ => ?_))
      | exact ih0 _ _ _
      | exact LeO.none _
      | refine LeO.ite ?_ ?_
      | refine LeO.bind ?_ (fun _ => ?_)
set_option maxHeartbeats 8000000 in
set_option maxRecDepth 100000 in
theorem redo_number.calls (k : Nat) (a0 : Int) (r : ByteArray) (w : World) (h : redo_number.f k a0 = some r) :
    Calls Try.prog 35 #[.int .u64 a0] w fun e w' => e = .returned (.string r) ∧ Below w.heap.size w w' := by
  have HB := Aside0.mk (Below.refl w.heap.size w)
  have H : (redo_number.l0 k a0 ([] : List Int) 0) = some r := h
  clear h
  have H' := Aside0.mk H
  clear H
  go_enter Try.func35, Try.ntmps35
  go_wp2
  go_loopg [3, 5] k (fun kq v3 v5 w' => ∃ (x3_1 : List Int) (x5_1 : Int), v5 = .int .i64 x5_1 ∧ Aside0 (redo_number.l0 kq a0 x3_1 x5_1 = some r) ∧ Aside0 (kq ≤ k) ∧ Aside0 (Kd.R (Kd.int .u8) 5 w' w.heap.size (fun _ => True) v3 x3_1) ∧ Aside0 (Below w.heap.size w w'))
  case atStart => exact ⟨(([] : List Int)), (0), (by first | rfl | (simp; done) | (simp [*]; done)), H', ⟨Nat.le_refl _⟩, ⟨by first | exact Kd.R_nil _ _ _ _ _ | exact Kd.N_nil _ _ _ _ _ | exact Kd.V_nil _ _ _ _ _ | exact Kd.Q_nil _ _ _ _ _ | exact Kd.S_nil _ _ _ _ _⟩, ⟨by repeat (first | (with_reducible first | exact HB.out | apply below_alloc | apply pw_below_drewN | apply below_drew1) | exact HB.out)⟩⟩
  case round =>
    clear H'
    obtain ⟨x3_1, x5_1, rfl, HA, HK1, HO_3, HB⟩ := hrel
    cases gk with
    | zero => exact absurd HA.out (by simp [redo_number.l0])
    | succ k1 =>
      have H := HA.out
      clear HA
      simp only [redo_number.l0] at H
      by_cases c2 : x5_1 < 8
      · rw [if_pos c2] at H
        have c2b0 : decide (x5_1 < 8) = true := decide_eq_true c2
        clear c2
        obtain ⟨ji3, hji3⟩ : ∃ j_ : Int, (wrap64 (8 * x5_1)) = j_ := ⟨_, rfl⟩
        replace H : (if 0 ≤ (ji3) then (if x3_1.length < 140737488355328 then (redo_number.l0 k1 a0 (x3_1 ++ [(shr .u64 a0 (ji3)) % 256]) (wrap64 (x5_1 + 1))) else (none)) else (none)) = some r := by first | (rw [hji3] at H; exact H) | (simp only [hji3] at H ⊢; exact H)
        have hji3w : (IntKind.i64.wrap (8 * x5_1)) = ji3 := (i64_w _).trans hji3
        by_cases c4 : 0 ≤ (ji3)
        · rw [if_pos c4] at H
          have c4b0 := eq_true c4
          have c4b1 : decide (0 ≤ (ji3)) = true := decide_eq_true c4
          clear c4
          obtain ⟨ji5, hji5⟩ : ∃ j_ : Int, (shr .u64 a0 (ji3)) = j_ := ⟨_, rfl⟩
          replace H : (if x3_1.length < 140737488355328 then (redo_number.l0 k1 a0 (x3_1 ++ [(ji5) % 256]) (wrap64 (x5_1 + 1))) else (none)) = some r := by first | (rw [hji5] at H; exact H) | (simp only [hji5] at H ⊢; exact H)
          have hji5_ : (a0 / 2 ^ min (ji3).toNat 64) = ji5 := hji5
          have hji5z : (ji3) ≤ 64 → (a0 / 2 ^ (ji3).toNat) = ji5 := shr_small hji5
          by_cases c6 : x3_1.length < 140737488355328
          · rw [if_pos c6] at H
            have LMc6 := Aside0.mk c6
            clear c6
            obtain ⟨y107, hy107⟩ : ∃ y_ : List Int, y_ = (x3_1 ++ [(ji5) % 256]) := ⟨_, rfl⟩
            replace H : (redo_number.l0 k1 a0 y107 (wrap64 (x5_1 + 1))) = some r := by first | (rw [hy107]; with_reducible exact H) | (have H2_ := (Option.bind_some _ _).symm.trans H; rw [hy107]; with_reducible exact H2_) | (have H2_ := (Option.bind_some _ _).symm.trans H; with_reducible exact H2_) | with_reducible exact H | (rw [hy107]; exact H) | exact H
            have Ny107 := Aside0.mk hy107
            clear hy107
            have H' := Aside0.mk H
            clear H
            go_wp2_with (first | ((with_reducible refine gate_builtin (b := .append) (xs := #[.tmp 8, .tmp 14]) rfl ?_); at_builtin; refine Kd.R_append (Kd.int .u8) (w0 := w) w.heap.size rfl (.tmp 8) (.tmp 14) 71 5 (.int .u8 0) 1 rfl Try.underlying71 info5 rfl (by decide) (by omega) u3 x3_1 ((ji5) % 256) [.int .u8 ((ji5) % 256)] (fun _ => True) (fun _ => False) rfl rfl ?aP (fun _ hk => hk.elim) ?aF ?aO ?aB ?aS ?aL ?_; (case aP => exact rfl); (case aB => exact (by repeat (first | (with_reducible first | exact HB.out | apply below_alloc | apply pw_below_drewN | apply below_drew1) | exact HB.out))); (case aF => exact (fun _ _ => trivial)); (case aO => exact (by (with_reducible repeat (first | apply Kd.R_alloc | apply Kd.R_drewN | apply Kd.R_drew)); exact HO_3.out)); (case aS => exact (below_size (by repeat (first | (with_reducible first | exact HB.out | apply below_alloc | apply pw_below_drewN | apply below_drew1) | exact HB.out)))); (case aL => have := LMc6.out; omega); intro v108 w7 ho hb hg hat; rw [← Ny107.out] at ho; have n0_ := Aside0.mk (hb); have n1_ := Aside0.mk (ho); clear HB; clear HO_3; have HB := n0_; have HO109 := n1_; clear n0_ n1_; clear ho hb hg hat))
            go_roundg k1
            case measure => have := HK1.out; omega
            case rel => exact ⟨(y107), (wrap64 (x5_1 + 1)), (by first | rfl | (simp; done) | (simp [*]; done)), H', ⟨by have := HK1.out; omega⟩, ⟨by (with_reducible repeat (first | apply Kd.R_alloc | apply Kd.R_drewN | apply Kd.R_drew)); exact HO109.out⟩, ⟨by repeat (first | (with_reducible first | exact HB.out | apply below_alloc | apply pw_below_drewN | apply below_drew1) | exact HB.out)⟩⟩
          · rw [if_neg c6] at H
            exact absurd H (by simp)
        · rw [if_neg c4] at H
          exact absurd H (by simp)
      · rw [if_neg c2] at H
        have c2b0 : decide (x5_1 < 8) = false := decide_eq_false c2
        clear c2
        obtain rfl := Option.some.inj H
        have hcv8 := own_string (P := Try.prog) Try.underlying71 Try.underlying5 Try.underlying9 (Kd.own_of_R HO_3.out)
        go_wp2
        go_ret
        exact ⟨by first | rfl | (simp [errW_none, errW_some] <;> rfl) | (simp [*, errW_none, errW_some] <;> rfl), by repeat (first | (with_reducible first | exact HB.out | apply below_alloc | apply pw_below_drewN | apply below_drew1) | exact HB.out)⟩

-- GIVEN: function 36 (octet_Text): its Lean function and its contract stand in a text of this session's

/-! ### redo_Record: function 15 -/
def redo_Record.f (k : Nat) (a0 : Int) (a1 : ByteArray) : Option (ByteArray) := (redo_number.f k a0).bind fun t110 => ((octet_Text.f a1).bind fun t111 => (if t110.size + t111.size ≤ 9223372036854775807 then ((seal_Put.f (t110 ++ t111)).bind fun t112 => (some t112)) else (none)))
theorem redo_Record.mono : ∀ a0 a1 k, LeO (redo_Record.f k a0 a1) (redo_Record.f (k + 1) a0 a1) := by
  intro a0 a1 k
  unfold redo_Record.f
  repeat' first
      | (with_reducible exact redo_number.mono _ _)
      | (with_reducible exact LeO.refl _)
      | (with_reducible exact LeO.none _)
      | (with_reducible refine LeO.ite ?_ ?_)
      | (with_reducible refine LeO.bind ?_ (fun _ => ?_))
      | exact redo_number.mono _ _
      | exact LeO.none _
      | refine LeO.ite ?_ ?_
      | refine LeO.bind ?_ (fun _ => ?_)
set_option maxHeartbeats 8000000 in
set_option maxRecDepth 100000 in
theorem redo_Record.calls (k : Nat) (a0 : Int) (a1 : ByteArray) (r : ByteArray) (w : World) (h : redo_Record.f k a0 a1 = some r) :
    Calls Try.prog 15 #[.int .u64 a0, .string a1] w fun e w' => e = .returned (.string r) ∧ Below w.heap.size w w' := by
  have HB := Aside0.mk (Below.refl w.heap.size w)
  have H : ((redo_number.f k a0).bind fun t110 => ((octet_Text.f a1).bind fun t111 => (if t110.size + t111.size ≤ 9223372036854775807 then ((seal_Put.f (t110 ++ t111)).bind fun t112 => (some t112)) else (none)))) = some r := h
  clear h
  replace H := Option.bind_eq_some_iff.mp H
  obtain ⟨t110, A30, H⟩ := H
  replace H : ((octet_Text.f a1).bind fun t111 => (if t110.size + t111.size ≤ 9223372036854775807 then ((seal_Put.f (t110 ++ t111)).bind fun t112 => (some t112)) else (none))) = some r := H
  have A3 := Aside0.mk A30
  clear A30
  replace H := Option.bind_eq_some_iff.mp H
  obtain ⟨t111, A40, H⟩ := H
  replace H : (if t110.size + t111.size ≤ 9223372036854775807 then ((seal_Put.f (t110 ++ t111)).bind fun t112 => (some t112)) else (none)) = some r := H
  have A4 := Aside0.mk A40
  clear A40
  by_cases c5 : t110.size + t111.size ≤ 9223372036854775807
  · rw [if_pos c5] at H
    have c5b0 := eq_true c5
    have c5b1 : decide (t110.size + t111.size ≤ 9223372036854775807) = true := decide_eq_true c5
    try have c5b2 : (9223372036854775807 < t110.size + t111.size) = False := eq_false (Nat.not_lt.2 c5)
    replace H := Option.bind_eq_some_iff.mp H
    obtain ⟨t112, A60, H⟩ := H
    replace H : (some t112) = some r := H
    have A6 := Aside0.mk A60
    clear A60
    obtain rfl := Option.some.inj H
    go_enter Try.func15, Try.ntmps15
    go_wp2_with (first | ((with_reducible refine gate_callee (f := 35) rfl ?_); refine goesL_ (some 6) rfl rfl Try.func35 (by kernel_rfl) rfl #[.int .u64 a0] rfl (by (try simp only [List.map_toArray, List.map_cons, List.map_nil]); first | done | rfl | (simp only [List.length_drop, List.length_take]; rfl)) ?_; (with_reducible refine (redo_number.calls k a0 t110 _ A3.out).mono ?_); rintro e w7 ⟨rfl, hb⟩; refine ⟨_, rfl, ?_⟩; have n0_ := Aside0.mk (below_step (by repeat (first | (with_reducible first | exact HB.out | apply below_alloc | apply pw_below_drewN | apply below_drew1) | exact HB.out)) hb); clear HB; have HB := n0_; clear n0_; (try clear hb); (try clear hb2); (try clear hk); (try clear hi)) | ((with_reducible refine gate_callee (f := 36) rfl ?_); refine goesL_ (some 8) rfl rfl Try.func36 (by kernel_rfl) rfl #[.string a1] rfl (by (try simp only [List.map_toArray, List.map_cons, List.map_nil]); first | done | rfl | (simp only [List.length_drop, List.length_take]; rfl)) ?_; (with_reducible refine (octet_Text.calls a1 t111 _ A4.out).mono ?_); rintro e w8 ⟨rfl, hb⟩; refine ⟨_, rfl, ?_⟩; have n0_ := Aside0.mk (below_step (by repeat (first | (with_reducible first | exact HB.out | apply below_alloc | apply pw_below_drewN | apply below_drew1) | exact HB.out)) hb); clear HB; have HB := n0_; clear n0_; (try clear hb); (try clear hb2); (try clear hk); (try clear hi)) | ((with_reducible refine gate_callee (f := 34) rfl ?_); refine goesL_ (some 10) rfl rfl Try.func34 (by kernel_rfl) rfl #[.string (t110 ++ t111)] rfl (by (try simp only [List.map_toArray, List.map_cons, List.map_nil]); first | done | rfl | (simp only [List.length_drop, List.length_take]; rfl)) ?_; (with_reducible refine (seal_Put.calls (t110 ++ t111) t112 _ A6.out).mono ?_); rintro e w9 ⟨rfl, hb⟩; refine ⟨_, rfl, ?_⟩; have n0_ := Aside0.mk (below_step (by repeat (first | (with_reducible first | exact HB.out | apply below_alloc | apply pw_below_drewN | apply below_drew1) | exact HB.out)) hb); clear HB; have HB := n0_; clear n0_; (try clear hb); (try clear hb2); (try clear hk); (try clear hi)))
    go_ret
    exact ⟨by first | rfl | (simp [errW_none, errW_some] <;> rfl) | (simp [*, errW_none, errW_some] <;> rfl), by repeat (first | (with_reducible first | exact HB.out | apply below_alloc | apply pw_below_drewN | apply below_drew1) | exact HB.out)⟩
  · rw [if_neg c5] at H
    exact absurd H (by simp)

/-! ### redo_sectors: function 33 -/
def redo_sectors.f (a0 : Int) : Option (Int) := some (wrap64 (Int.tdiv (wrap64 ((wrap64 (a0 + 64)) - 1)) 64))
set_option maxHeartbeats 8000000 in
set_option maxRecDepth 100000 in
theorem redo_sectors.calls (a0 : Int) (r : Int) (w : World) (h : redo_sectors.f a0 = some r) :
    Calls Try.prog 33 #[.int .i64 a0] w fun e w' => e = .returned (.int .i64 r) ∧ Drawn0 w w' := by
  have H : (some (wrap64 (Int.tdiv (wrap64 ((wrap64 (a0 + 64)) - 1)) 64))) = some r := h
  clear h
  obtain rfl := Option.some.inj H
  go_enter Try.func33, Try.ntmps33
  go_wp2
  go_ret
  exact ⟨by first | rfl | (simp; done) | (simp [*]; done), by repeat (first | exact Drawn0.refl _ | apply Drawn0.step)⟩

-- GIVEN: function 64 (redo_round): its Lean function and its contract stand in a text of this session's

/-! ### stringslite_HasPrefix: function 75 -/
def stringslite_HasPrefix.f (a0 : ByteArray) (a1 : ByteArray) : Option (Bool) := if (a0.size : Int) ≥ (a1.size : Int) then (if 0 ≤ (a1.size : Int) then (if (a1.size : Int) ≤ (a0.size : Int) then (some ((a0.extract 0 ((a1.size : Int) : Int).toNat).toList == a1.toList)) else (none)) else (none)) else (some false)
set_option maxHeartbeats 8000000 in
set_option maxRecDepth 100000 in
theorem stringslite_HasPrefix.calls (a0 : ByteArray) (a1 : ByteArray) (r : Bool) (w : World) (h : stringslite_HasPrefix.f a0 a1 = some r) :
    Calls Try.prog 75 #[.string a0, .string a1] w fun e w' => e = .returned (.bool r) ∧ Drawn0 w w' := by
  have H : (if (a0.size : Int) ≥ (a1.size : Int) then (if 0 ≤ (a1.size : Int) then (if (a1.size : Int) ≤ (a0.size : Int) then (some ((a0.extract 0 ((a1.size : Int) : Int).toNat).toList == a1.toList)) else (none)) else (none)) else (some false)) = some r := h
  clear h
  by_cases c3 : (a0.size : Int) ≥ (a1.size : Int)
  · rw [if_pos c3] at H
    have c3b0 : decide ((a1.size : Int) ≤ (a0.size : Int)) = true := decide_eq_true c3
    have c3b1 : decide (a1.size ≤ a0.size) = true := decide_eq_true (Int.ofNat_le.mp c3)
    clear c3
    by_cases c4 : 0 ≤ (a1.size : Int)
    · rw [if_pos c4] at H
      have c4b0 := eq_true c4
      have c4b1 : decide (0 ≤ (a1.size : Int)) = true := decide_eq_true c4
      clear c4
      by_cases c5 : (a1.size : Int) ≤ (a0.size : Int)
      · rw [if_pos c5] at H
        have c5b0 := eq_true c5
        have c5b1 : decide ((a1.size : Int) ≤ (a0.size : Int)) = true := decide_eq_true c5
        clear c5
        obtain rfl := Option.some.inj H
        go_enter Try.func75, Try.ntmps75
        go_wp2
        go_ret
        exact ⟨by first | rfl | (simp; done) | (simp [*]; done), by repeat (first | exact Drawn0.refl _ | apply Drawn0.step)⟩
      · rw [if_neg c5] at H
        exact absurd H (by simp)
    · rw [if_neg c4] at H
      exact absurd H (by simp)
  · rw [if_neg c3] at H
    have c3b0 : decide ((a1.size : Int) ≤ (a0.size : Int)) = false := decide_eq_false c3
    have c3b1 : decide (a1.size ≤ a0.size) = false := decide_eq_false (fun h => c3 (Int.ofNat_le.mpr h))
    clear c3
    obtain rfl := Option.some.inj H
    go_enter Try.func75, Try.ntmps75
    go_wp2
    go_ret
    exact ⟨by first | rfl | (simp; done) | (simp [*]; done), by repeat (first | exact Drawn0.refl _ | apply Drawn0.step)⟩

/-! ### strings_HasPrefix: function 65 -/
def strings_HasPrefix.f (a0 : ByteArray) (a1 : ByteArray) : Option (Bool) := (stringslite_HasPrefix.f a0 a1).bind fun t113 => (some t113)
set_option maxHeartbeats 8000000 in
set_option maxRecDepth 100000 in
theorem strings_HasPrefix.calls (a0 : ByteArray) (a1 : ByteArray) (r : Bool) (w : World) (h : strings_HasPrefix.f a0 a1 = some r) :
    Calls Try.prog 65 #[.string a0, .string a1] w fun e w' => e = .returned (.bool r) ∧ Drawn0 w w' := by
  have H : ((stringslite_HasPrefix.f a0 a1).bind fun t113 => (some t113)) = some r := h
  clear h
  replace H := Option.bind_eq_some_iff.mp H
  obtain ⟨t113, A30, H⟩ := H
  replace H : (some t113) = some r := H
  have A3 := Aside0.mk A30
  clear A30
  obtain rfl := Option.some.inj H
  go_enter Try.func65, Try.ntmps65
  go_wp2_with (first | ((with_reducible refine gate_callee (f := 75) rfl ?_); refine goesL_ (some 7) rfl rfl Try.func75 (by kernel_rfl) rfl #[.string a0, .string a1] rfl (by (try simp only [List.map_toArray, List.map_cons, List.map_nil]); first | done | rfl | (simp only [List.length_drop, List.length_take]; rfl)) ?_; (with_reducible refine (stringslite_HasPrefix.calls a0 a1 t113 _ A3.out).mono ?_); rintro e w' ⟨rfl, ⟨nd, rfl⟩⟩; refine ⟨_, rfl, ?_⟩))
  go_ret
  exact ⟨by first | rfl | (simp; done) | (simp [*]; done), by repeat (first | exact Drawn0.refl _ | apply Drawn0.step)⟩

-- GIVEN: function 66 (octet_TakeText): its Lean function and its contract stand in a text of this session's

end Go.Proofs.Ytcbfnfggnocndaa.V
end
