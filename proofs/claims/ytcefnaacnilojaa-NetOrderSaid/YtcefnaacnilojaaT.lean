/- The machine's side of laws of this seat: Go functions as Lean functions, and the proof that a call of each comes to what its function says (written by a program of this session, px.py, that runs the kit's print). -/
import Derived.Test.YtcefnaacnilojaaT0
import Derived.Test.YtcefnaacnilojaaT1
namespace Go.Proofs.Ytcefnaacnilojaa.T
open Go.RowKit Go.Proofs.YtcefnaacnilojaaW.PrintWords Go.Proofs.YtcefnaacnilojaaW.PrintLast Go.Proofs.YtcefnaacnilojaaW.PrintMore
attribute [local go_sem] max2_int min2_int max_two min_two max_three min_three max_four min_four   -- for this text's walks alone
attribute [local go_sem high] Go.Proofs.Ytcefnaacnilojaa.px_xor_u8 Go.Proofs.Ytcefnaacnilojaa.px_xor_u16 Go.Proofs.Ytcefnaacnilojaa.px_xor_u32 Go.Proofs.Ytcefnaacnilojaa.px_xor_u64
set_option linter.unusedVariables false
set_option linter.unusedSimpArgs false

end Go.Proofs.Ytcefnaacnilojaa.T
