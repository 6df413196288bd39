/- The machine's side of laws of this seat: Go functions as Lean functions, and the proof that a call of each comes to what its function says (written by a program of this session, px.py, that runs the kit's print). -/
import Derived.Test.YtiicahnbkdjhbaaProg
import Derived.Below
import Derived.Deep.Draws
import Derived.Deep.AppendLies
import Derived.Maps.AppendAt
import Derived.OwnWalk
import Derived.Laws.BytesArg
import Derived.Laws.MakeOwn
import Derived.Laws.OwnMore
import Derived.Deep.OwnRows
import Derived.Tactics
import Derived.Lib.ConvBytes
import Derived.Laws.Slices
import Derived.WalkKit
import Derived.KernelRfl
import Derived.RowKit3
import Derived.Deep.LoopGhost
import Derived.Deep.QuietTactic
import Derived.BigQuiet
import Derived.WideLaws
import Derived.Deep.DeepCutAuto
import Derived.Deep.CutBlock
import Derived.Deep.RegionHeld3
import Derived.Laws.Rows
import Derived.Lib.AppendStr
import Derived.ArgAppend
import Derived.Laws.IdiomCopy
import Derived.OrdersHeld
import Derived.Laws.BitsLemmas
import Derived.RowKit
import Derived.Test.YtiicahnbkdjhbaaBase
import Derived.Test.YtiicahnbkdjhbaaSealA
import Derived.Test.YtiicahnbkdjhbaaWWords
import Derived.Test.YtiicahnbkdjhbaaWLast
import Derived.Test.YtiicahnbkdjhbaaWTab
import Derived.Test.YtiicahnbkdjhbaaWFour
import Derived.Test.YtiicahnbkdjhbaaWQPut
import Derived.Test.YtiicahnbkdjhbaaWApart
import Derived.Test.YtiicahnbkdjhbaaWArr
import Derived.Test.YtiicahnbkdjhbaaWZeros
import Derived.Test.YtiicahnbkdjhbaaWFoot
import Derived.Test.YtiicahnbkdjhbaaWKept
import Derived.Test.YtiicahnbkdjhbaaWShare
import Derived.Test.YtiicahnbkdjhbaaWN
import Derived.Test.YtiicahnbkdjhbaaWFootNe
import Derived.Test.YtiicahnbkdjhbaaWAt
import Derived.Test.YtiicahnbkdjhbaaWEqStruct
import Derived.Test.YtiicahnbkdjhbaaWRepsOne
import Derived.Test.YtiicahnbkdjhbaaWInv
import Derived.Test.YtiicahnbkdjhbaaWInvWords
import Derived.Test.YtiicahnbkdjhbaaWGuard
import Derived.Test.YtiicahnbkdjhbaaWNEv
import Derived.Test.YtiicahnbkdjhbaaWMore
namespace Go.Proofs.Ytiicahnbkdjhbaa.Q
open Go.RowKit Go.Proofs.YtiicahnbkdjhbaaW.PrintWords Go.Proofs.YtiicahnbkdjhbaaW.PrintLast Go.Proofs.YtiicahnbkdjhbaaW.PrintMore
attribute [local go_sem] max2_int min2_int max_two min_two max_three min_three max_four min_four   -- for this text's walks alone
attribute [local go_sem high] Go.Proofs.Ytiicahnbkdjhbaa.px_xor_u8 Go.Proofs.Ytiicahnbkdjhbaa.px_xor_u16 Go.Proofs.Ytiicahnbkdjhbaa.px_xor_u32 Go.Proofs.Ytiicahnbkdjhbaa.px_xor_u64
set_option linter.unusedVariables false
set_option linter.unusedSimpArgs false



def errW : Option Int → Value
  | none => .nilIface
  | some c => .iface 0 (.int .i64 c)
theorem errW_none : errW none = .nilIface := rfl
theorem errW_some (c : Int) : errW (some c) = .iface 0 (.int .i64 c) := rfl

theorem info5 : (Try.prog.info? 5).map (fun i => (i.zero, i.size, i.bytes)) = some (some (.int .u8 0), 1, 1) := by kernel_rfl
-- the values' own types

end Go.Proofs.Ytiicahnbkdjhbaa.Q
