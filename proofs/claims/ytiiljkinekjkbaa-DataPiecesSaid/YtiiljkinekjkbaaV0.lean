/- The machine's side of laws of this seat: Go functions as Lean functions, and the proof that a call of each comes to what its function says (written by a program of this session, px.py, that runs the kit's print). -/
import Derived.Test.YtiiljkinekjkbaaProg
import Derived.Below
import Derived.Deep.Draws
import Derived.Deep.AppendLies
import Derived.Maps.AppendAt
import Derived.OwnWalk
import Derived.Laws.BytesArg
import Derived.Laws.MakeOwn
import Derived.Laws.OwnMore
import Derived.Deep.OwnRows
import Derived.Tactics
import Derived.Lib.ConvBytes
import Derived.Laws.Slices
import Derived.WalkKit
import Derived.KernelRfl
import Derived.RowKit3
import Derived.Deep.LoopGhost
import Derived.Deep.QuietTactic
import Derived.BigQuiet
import Derived.WideLaws
import Derived.Deep.DeepCutAuto
import Derived.Deep.CutBlock
import Derived.Deep.RegionHeld3
import Derived.Laws.Rows
import Derived.Lib.AppendStr
import Derived.ArgAppend
import Derived.Laws.IdiomCopy
import Derived.OrdersHeld
import Derived.Laws.BitsLemmas
import Derived.RowKit
import Derived.Test.YtiiljkinekjkbaaBase
import Derived.Test.YtiiljkinekjkbaaDatS
import Derived.Test.YtiiljkinekjkbaaWWords
import Derived.Test.YtiiljkinekjkbaaWLast
import Derived.Test.YtiiljkinekjkbaaWTab
import Derived.Test.YtiiljkinekjkbaaWFour
import Derived.Test.YtiiljkinekjkbaaWQPut
import Derived.Test.YtiiljkinekjkbaaWApart
import Derived.Test.YtiiljkinekjkbaaWArr
import Derived.Test.YtiiljkinekjkbaaWZeros
import Derived.Test.YtiiljkinekjkbaaWFoot
import Derived.Test.YtiiljkinekjkbaaWKept
import Derived.Test.YtiiljkinekjkbaaWShare
import Derived.Test.YtiiljkinekjkbaaWN
import Derived.Test.YtiiljkinekjkbaaWFootNe
import Derived.Test.YtiiljkinekjkbaaWAt
import Derived.Test.YtiiljkinekjkbaaWEqStruct
import Derived.Test.YtiiljkinekjkbaaWRepsOne
import Derived.Test.YtiiljkinekjkbaaWInv
import Derived.Test.YtiiljkinekjkbaaWInvWords
import Derived.Test.YtiiljkinekjkbaaWGuard
import Derived.Test.YtiiljkinekjkbaaWNEv
import Derived.Test.YtiiljkinekjkbaaWMore
namespace Go.Proofs.Ytiiljkinekjkbaa.V
open Go.RowKit Go.Proofs.YtiiljkinekjkbaaW.PrintWords Go.Proofs.YtiiljkinekjkbaaW.PrintLast Go.Proofs.YtiiljkinekjkbaaW.PrintMore
attribute [local go_sem] max2_int min2_int max_two min_two max_three min_three max_four min_four   -- for this text's walks alone
attribute [local go_sem high] Go.Proofs.Ytiiljkinekjkbaa.px_xor_u8 Go.Proofs.Ytiiljkinekjkbaa.px_xor_u16 Go.Proofs.Ytiiljkinekjkbaa.px_xor_u32 Go.Proofs.Ytiiljkinekjkbaa.px_xor_u64
set_option linter.unusedVariables false
set_option linter.unusedSimpArgs false



def errW : Option Int → Value
  | none => .nilIface
  | some c => .iface 0 (.int .i64 c)
theorem errW_none : errW none = .nilIface := rfl
theorem errW_some (c : Int) : errW (some c) = .iface 0 (.int .i64 c) := rfl

theorem info5 : (Try.prog.info? 5).map (fun i => (i.zero, i.size, i.bytes)) = some (some (.int .u8 0), 1, 1) := by kernel_rfl
-- the values' own types

end Go.Proofs.Ytiiljkinekjkbaa.V
