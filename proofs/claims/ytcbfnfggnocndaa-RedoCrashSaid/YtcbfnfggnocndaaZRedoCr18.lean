import Derived.Test.YtcbfnfggnocndaaZRedoCr17
import Derived.Test.YtcbfnfggnocndaaZRedoCr13
-- PRINTED BY print.sh 35421559b90ae4d0a3588c463048766b98c2df88dd9212a6774a882060cdf62d: not written by this session
namespace Go.Proofs.YtcbfnfggnocndaaW.PrintWords
open Go.RowKit
end Go.Proofs.YtcbfnfggnocndaaW.PrintWords
namespace Go.Proofs.YtcbfnfggnocndaaW.PrintLast
section
variable {ops : Array Oper} {a : Act} {o og : Oper} {g : Nat} {t : Tmp} {u : Bool}
end
end Go.Proofs.YtcbfnfggnocndaaW.PrintLast
