/- The machine's side of laws of this seat: Go functions as Lean functions, and the proof that a call of each comes to what its function says (written by a program of this session, px.py, that runs the kit's print). -/
import Derived.Test.YtcefnaacnilojaaProg
import Derived.Below
import Derived.Deep.Draws
import Derived.Deep.AppendLies
import Derived.Maps.AppendAt
import Derived.OwnWalk
import Derived.Laws.BytesArg
import Derived.Laws.MakeOwn
import Derived.Laws.OwnMore
import Derived.Deep.OwnRows
import Derived.Tactics
import Derived.Lib.ConvBytes
import Derived.Laws.Slices
import Derived.WalkKit
import Derived.KernelRfl
import Derived.RowKit3
import Derived.Deep.LoopGhost
import Derived.Deep.QuietTactic
import Derived.BigQuiet
import Derived.WideLaws
import Derived.Deep.DeepCutAuto
import Derived.Deep.CutBlock
import Derived.Deep.RegionHeld3
import Derived.Laws.Rows
import Derived.Lib.AppendStr
import Derived.ArgAppend
import Derived.Laws.IdiomCopy
import Derived.OrdersHeld
import Derived.Laws.BitsLemmas
import Derived.RowKit
import Derived.Test.YtcefnaacnilojaaBase
import Derived.Test.YtcefnaacnilojaaWWords
import Derived.Test.YtcefnaacnilojaaWLast
import Derived.Test.YtcefnaacnilojaaWTab
import Derived.Test.YtcefnaacnilojaaWFour
import Derived.Test.YtcefnaacnilojaaWQPut
import Derived.Test.YtcefnaacnilojaaWApart
import Derived.Test.YtcefnaacnilojaaWArr
import Derived.Test.YtcefnaacnilojaaWZeros
import Derived.Test.YtcefnaacnilojaaWFoot
import Derived.Test.YtcefnaacnilojaaWKept
import Derived.Test.YtcefnaacnilojaaWShare
import Derived.Test.YtcefnaacnilojaaWN
import Derived.Test.YtcefnaacnilojaaWFootNe
import Derived.Test.YtcefnaacnilojaaWAt
import Derived.Test.YtcefnaacnilojaaWEqStruct
import Derived.Test.YtcefnaacnilojaaWRepsOne
import Derived.Test.YtcefnaacnilojaaWInv
import Derived.Test.YtcefnaacnilojaaWInvWords
import Derived.Test.YtcefnaacnilojaaWGuard
import Derived.Test.YtcefnaacnilojaaWNEv
import Derived.Test.YtcefnaacnilojaaWMore
namespace Go.Proofs.Ytcefnaacnilojaa.T
open Go.RowKit Go.Proofs.YtcefnaacnilojaaW.PrintWords Go.Proofs.YtcefnaacnilojaaW.PrintLast Go.Proofs.YtcefnaacnilojaaW.PrintMore
attribute [local go_sem] max2_int min2_int max_two min_two max_three min_three max_four min_four   -- for this text's walks alone
attribute [local go_sem high] Go.Proofs.Ytcefnaacnilojaa.px_xor_u8 Go.Proofs.Ytcefnaacnilojaa.px_xor_u16 Go.Proofs.Ytcefnaacnilojaa.px_xor_u32 Go.Proofs.Ytcefnaacnilojaa.px_xor_u64
set_option linter.unusedVariables false
set_option linter.unusedSimpArgs false



def errW : Option Int → Value
  | none => .nilIface
  | some c => .iface 0 (.int .i64 c)
theorem errW_none : errW none = .nilIface := rfl
theorem errW_some (c : Int) : errW (some c) = .iface 0 (.int .i64 c) := rfl

-- the values' own types

end Go.Proofs.Ytcefnaacnilojaa.T
