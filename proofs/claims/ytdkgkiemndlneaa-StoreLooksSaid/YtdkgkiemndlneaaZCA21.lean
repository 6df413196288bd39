import Derived.Test.YtdkgkiemndlneaaZCA20
import Derived.Test.YtdkgkiemndlneaaZCA16
-- PRINTED BY print.sh 35421559b90ae4d0a3588c463048766b98c2df88dd9212a6774a882060cdf62d: not written by this session
namespace Go.Proofs.YtdkgkiemndlneaaW.PrintWords
open Go.RowKit
end Go.Proofs.YtdkgkiemndlneaaW.PrintWords
namespace Go.Proofs.YtdkgkiemndlneaaW.PrintLast
section
variable {ops : Array Oper} {a : Act} {o og : Oper} {g : Nat} {t : Tmp} {u : Bool}
end
end Go.Proofs.YtdkgkiemndlneaaW.PrintLast
