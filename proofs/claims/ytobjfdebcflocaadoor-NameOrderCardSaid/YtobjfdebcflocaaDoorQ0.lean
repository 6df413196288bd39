/- The machine's side of laws of this seat: Go functions as Lean functions, and the proof that a call of each comes to what its function says (written by a program of this session, px.py, that runs the kit's print). -/
import Derived.Test.YtobjfdebcflocaaDoorProg
import Derived.Below
import Derived.Deep.Draws
import Derived.Deep.AppendLies
import Derived.Maps.AppendAt
import Derived.OwnWalk
import Derived.Laws.BytesArg
import Derived.Laws.MakeOwn
import Derived.Laws.OwnMore
import Derived.Deep.OwnRows
import Derived.Tactics
import Derived.Lib.ConvBytes
import Derived.Laws.Slices
import Derived.WalkKit
import Derived.KernelRfl
import Derived.RowKit3
import Derived.Deep.LoopGhost
import Derived.Deep.QuietTactic
import Derived.BigQuiet
import Derived.WideLaws
import Derived.Deep.DeepCutAuto
import Derived.Deep.CutBlock
import Derived.Deep.RegionHeld3
import Derived.Laws.Rows
import Derived.Lib.AppendStr
import Derived.ArgAppend
import Derived.Laws.IdiomCopy
import Derived.OrdersHeld
import Derived.Laws.BitsLemmas
import Derived.RowKit
import Derived.Test.YtobjfdebcflocaaDoorBase
import Derived.Test.YtobjfdebcflocaaDoorWWords
import Derived.Test.YtobjfdebcflocaaDoorWLast
import Derived.Test.YtobjfdebcflocaaDoorWTab
import Derived.Test.YtobjfdebcflocaaDoorWFour
import Derived.Test.YtobjfdebcflocaaDoorWQPut
import Derived.Test.YtobjfdebcflocaaDoorWApart
import Derived.Test.YtobjfdebcflocaaDoorWArr
import Derived.Test.YtobjfdebcflocaaDoorWZeros
import Derived.Test.YtobjfdebcflocaaDoorWFoot
import Derived.Test.YtobjfdebcflocaaDoorWKept
import Derived.Test.YtobjfdebcflocaaDoorWShare
import Derived.Test.YtobjfdebcflocaaDoorWN
import Derived.Test.YtobjfdebcflocaaDoorWFootNe
import Derived.Test.YtobjfdebcflocaaDoorWAt
import Derived.Test.YtobjfdebcflocaaDoorWEqStruct
import Derived.Test.YtobjfdebcflocaaDoorWRepsOne
import Derived.Test.YtobjfdebcflocaaDoorWInv
import Derived.Test.YtobjfdebcflocaaDoorWInvWords
import Derived.Test.YtobjfdebcflocaaDoorWGuard
import Derived.Test.YtobjfdebcflocaaDoorWNEv
import Derived.Test.YtobjfdebcflocaaDoorWMore
namespace Go.Proofs.YtobjfdebcflocaaDoor.Q
open Go.RowKit Go.Proofs.YtobjfdebcflocaaDoorW.PrintWords Go.Proofs.YtobjfdebcflocaaDoorW.PrintLast Go.Proofs.YtobjfdebcflocaaDoorW.PrintMore
attribute [local go_sem] max2_int min2_int max_two min_two max_three min_three max_four min_four   -- for this text's walks alone
attribute [local go_sem high] Go.Proofs.YtobjfdebcflocaaDoor.px_xor_u8 Go.Proofs.YtobjfdebcflocaaDoor.px_xor_u16 Go.Proofs.YtobjfdebcflocaaDoor.px_xor_u32 Go.Proofs.YtobjfdebcflocaaDoor.px_xor_u64
set_option linter.unusedVariables false
set_option linter.unusedSimpArgs false



def errW : Option Int → Value
  | none => .nilIface
  | some c => .iface 0 (.int .i64 c)
theorem errW_none : errW none = .nilIface := rfl
theorem errW_some (c : Int) : errW (some c) = .iface 0 (.int .i64 c) := rfl

theorem info9 : (Tryd.prog.info? 9).map (fun i => (i.zero, i.size, i.bytes)) = some (some (.string ⟨#[]⟩), 1, 16) := by kernel_rfl
theorem info56 : (Tryd.prog.info? 56).map (fun i => (i.zero, i.size, i.bytes)) = some (some (.agg #[(.string ⟨#[]⟩), (.int .i64 0)]), 2, 24) := by kernel_rfl
-- the values' own types
/-! #### struct type 56 -/
structure S56 where
  f0 : ByteArray
  f1 : Int
def z56 : S56 := ⟨(⟨#[]⟩ : ByteArray), (0 : Int)⟩
def k56 : Kd S56 := Kd.iso (Kd.pair Kd.string (Kd.int .i64)) (fun x : S56 => (x.f0, x.f1))
theorem k56_heap : Kd.Heap k56 := Kd.heap_iso _ (Kd.heap_pair Kd.heap_string (Kd.heap_int .i64))
theorem k56_open {w : World} {x : S56} {cs : List Value} (h : k56.K w x cs) : cs = [.string x.f0, .int .i64 x.f1] := by
  obtain ⟨_, _, rfl, rfl, rfl⟩ := h
  exact rfl
theorem k56_openM {w : World} {base : Nat} {ok : Nat → Prop} {x : S56} {cs : List Value} (h : k56.M w base ok x cs) : cs = [.string x.f0, .int .i64 x.f1] := by
  obtain ⟨_, _, rfl, rfl, rfl⟩ := h
  exact rfl
theorem k56_mk (w : World) (x : S56)  : k56.K w x [.string x.f0, .int .i64 x.f1] := ⟨[.string x.f0], [.int .i64 x.f1], rfl, rfl, rfl⟩
theorem k56_mkM (w : World) (base : Nat) (ok : Nat → Prop) (x : S56)  : k56.M w base ok x [.string x.f0, .int .i64 x.f1] := ⟨[.string x.f0], [.int .i64 x.f1], rfl, rfl, rfl⟩
theorem k56_mkF (W : World) (ok : Nat → Prop) (x : S56) : Kd.FK k56 W ok x [.string x.f0, .int .i64 x.f1] := fun W2 _ => k56_mk W2 x
def rd_T56 (xs : List S56) (i : Int) : S56 := xs.getD i.toNat z56
theorem at_T56 {w : World} {A : Option Addr} {n : Nat} {xs : List S56} (h : Kd.C k56 w A n xs) (i : Int) (h0 : 0 ≤ i) (h1 : i < n) : ∃ ad , A = some ad ∧ w.cell? (ad.add (i.toNat * 2)) = some (.string (rd_T56 xs i).f0) ∧ w.cell? ⟨(ad.add (i.toNat * 2)).block, (ad.add (i.toNat * 2)).off + 1, none⟩ = some (.int .i64 (rd_T56 xs i).f1) := by
  obtain ⟨ad, c, e, _, hK, hc0⟩ := Kd.C_get h z56 i h0 h1
  have hc : ∀ j u, c[j]? = some u → w.cell? (ad.add (i.toNat * 2 + j)) = some u := hc0
  obtain rfl := k56_open hK
  exact ⟨ad, e, hc 0 _ rfl, by rw [← add_field _ _ 1 (by omega)]; exact hc 1 _ rfl⟩

end Go.Proofs.YtobjfdebcflocaaDoor.Q
