/- The machine's side of laws of this seat: Go functions as Lean functions, and the proof that a call of each comes to what its function says (written by a program of this session, px.py, that runs the kit's print). -/
import Derived.Test.YtoenhajcjebmeaaProg
import Derived.Below
import Derived.Deep.Draws
import Derived.Deep.AppendLies
import Derived.Maps.AppendAt
import Derived.OwnWalk
import Derived.Laws.BytesArg
import Derived.Laws.MakeOwn
import Derived.Laws.OwnMore
import Derived.Deep.OwnRows
import Derived.Tactics
import Derived.Lib.ConvBytes
import Derived.Laws.Slices
import Derived.WalkKit
import Derived.KernelRfl
import Derived.RowKit3
import Derived.Deep.LoopGhost
import Derived.Deep.QuietTactic
import Derived.BigQuiet
import Derived.WideLaws
import Derived.Deep.DeepCutAuto
import Derived.Deep.CutBlock
import Derived.Deep.RegionHeld3
import Derived.Laws.Rows
import Derived.Lib.AppendStr
import Derived.ArgAppend
import Derived.Laws.IdiomCopy
import Derived.OrdersHeld
import Derived.Laws.BitsLemmas
import Derived.RowKit
import Derived.Test.YtoenhajcjebmeaaBase
import Derived.Test.YtoenhajcjebmeaaOctE
import Derived.Test.YtoenhajcjebmeaaWWords
import Derived.Test.YtoenhajcjebmeaaWLast
import Derived.Test.YtoenhajcjebmeaaWTab
import Derived.Test.YtoenhajcjebmeaaWFour
import Derived.Test.YtoenhajcjebmeaaWQPut
import Derived.Test.YtoenhajcjebmeaaWApart
import Derived.Test.YtoenhajcjebmeaaWArr
import Derived.Test.YtoenhajcjebmeaaWZeros
import Derived.Test.YtoenhajcjebmeaaWFoot
import Derived.Test.YtoenhajcjebmeaaWKept
import Derived.Test.YtoenhajcjebmeaaWShare
import Derived.Test.YtoenhajcjebmeaaWN
import Derived.Test.YtoenhajcjebmeaaWFootNe
import Derived.Test.YtoenhajcjebmeaaWAt
import Derived.Test.YtoenhajcjebmeaaWEqStruct
import Derived.Test.YtoenhajcjebmeaaWRepsOne
import Derived.Test.YtoenhajcjebmeaaWInv
import Derived.Test.YtoenhajcjebmeaaWInvWords
import Derived.Test.YtoenhajcjebmeaaWGuard
import Derived.Test.YtoenhajcjebmeaaWNEv
import Derived.Test.YtoenhajcjebmeaaWMore
namespace Go.Proofs.Ytoenhajcjebmeaa.Q
open Go.RowKit Go.Proofs.YtoenhajcjebmeaaW.PrintWords Go.Proofs.YtoenhajcjebmeaaW.PrintLast Go.Proofs.YtoenhajcjebmeaaW.PrintMore
attribute [local go_sem] max2_int min2_int max_two min_two max_three min_three max_four min_four   -- for this text's walks alone
attribute [local go_sem high] Go.Proofs.Ytoenhajcjebmeaa.px_xor_u8 Go.Proofs.Ytoenhajcjebmeaa.px_xor_u16 Go.Proofs.Ytoenhajcjebmeaa.px_xor_u32 Go.Proofs.Ytoenhajcjebmeaa.px_xor_u64
set_option linter.unusedVariables false
set_option linter.unusedSimpArgs false



def errW : Option Int → Value
  | none => .nilIface
  | some c => .iface 0 (.int .i64 c)
theorem errW_none : errW none = .nilIface := rfl
theorem errW_some (c : Int) : errW (some c) = .iface 0 (.int .i64 c) := rfl

theorem info5 : (Try.prog.info? 5).map (fun i => (i.zero, i.size, i.bytes)) = some (some (.int .u8 0), 1, 1) := by kernel_rfl
theorem info9 : (Try.prog.info? 9).map (fun i => (i.zero, i.size, i.bytes)) = some (some (.string ⟨#[]⟩), 1, 16) := by kernel_rfl
-- the values' own types

end Go.Proofs.Ytoenhajcjebmeaa.Q
