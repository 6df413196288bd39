import Derived.Test.YtgnmhbkialgeaaaZWireApart24x1
import Derived.Test.YtgnmhbkialgeaaaProg
import Derived.Below
import Derived.Deep.Draws
import Derived.Deep.AppendLies
import Derived.Maps.AppendAt
import Derived.OwnWalk
import Derived.Laws.BytesArg
import Derived.Laws.MakeOwn
import Derived.Laws.OwnMore
import Derived.Deep.OwnRows
import Derived.Tactics
import Derived.Lib.ConvBytes
import Derived.Laws.Slices
import Derived.WalkKit
import Derived.KernelRfl
import Derived.RowKit3
import Derived.Deep.LoopGhost
import Derived.Deep.QuietTactic
import Derived.BigQuiet
import Derived.WideLaws
import Derived.Deep.DeepCutAuto
import Derived.Deep.CutBlock
import Derived.Deep.RegionHeld3
import Derived.Laws.Rows
import Derived.Lib.AppendStr
import Derived.ArgAppend
import Derived.Laws.IdiomCopy
import Derived.OrdersHeld
import Derived.Laws.BitsLemmas
import Derived.RowKit
import Derived.Test.YtgnmhbkialgeaaaZWireApart0
import Derived.Test.YtgnmhbkialgeaaaZWireApart1
import Derived.Test.YtgnmhbkialgeaaaZWireApart3
import Derived.Test.YtgnmhbkialgeaaaZWireApart4
import Derived.Test.YtgnmhbkialgeaaaZWireApart5
import Derived.Test.YtgnmhbkialgeaaaZWireApart6
import Derived.Test.YtgnmhbkialgeaaaZWireApart7
import Derived.Test.YtgnmhbkialgeaaaZWireApart8
import Derived.Test.YtgnmhbkialgeaaaZWireApart9
import Derived.Test.YtgnmhbkialgeaaaZWireApart10
import Derived.Test.YtgnmhbkialgeaaaZWireApart11
import Derived.Test.YtgnmhbkialgeaaaZWireApart12
import Derived.Test.YtgnmhbkialgeaaaZWireApart13
import Derived.Test.YtgnmhbkialgeaaaZWireApart14
import Derived.Test.YtgnmhbkialgeaaaZWireApart15
import Derived.Test.YtgnmhbkialgeaaaZWireApart16
import Derived.Test.YtgnmhbkialgeaaaZWireApart17
import Derived.Test.YtgnmhbkialgeaaaZWireApart18
import Derived.Test.YtgnmhbkialgeaaaZWireApart19
import Derived.Test.YtgnmhbkialgeaaaZWireApart20
import Derived.Test.YtgnmhbkialgeaaaZWireApart21
import Derived.Test.YtgnmhbkialgeaaaZWireApart22
section
/- The machine's side of laws of this seat: Go functions as Lean functions, and the proof that a call of each comes to what its function says (written by a program of this session, px.py, that runs the kit's print). -/
namespace Go.Proofs.Ytgnmhbkialgeaaa.Q
open Go.RowKit Go.Proofs.YtgnmhbkialgeaaaW.PrintWords Go.Proofs.YtgnmhbkialgeaaaW.PrintLast Go.Proofs.YtgnmhbkialgeaaaW.PrintMore
attribute [local go_sem] max2_int min2_int max_two min_two max_three min_three max_four min_four   -- for this text's walks alone
attribute [local go_sem high] Go.Proofs.Ytgnmhbkialgeaaa.px_xor_u8 Go.Proofs.Ytgnmhbkialgeaaa.px_xor_u16 Go.Proofs.Ytgnmhbkialgeaaa.px_xor_u32 Go.Proofs.Ytgnmhbkialgeaaa.px_xor_u64
set_option linter.unusedVariables false
set_option linter.unusedSimpArgs false

end Go.Proofs.Ytgnmhbkialgeaaa.Q
end

section
/- The machine's side of laws of this seat: Go functions as Lean functions, and the proof that a call of each comes to what its function says (written by a program of this session, px.py, that runs the kit's print). -/
namespace Go.Proofs.Ytgnmhbkialgeaaa.R
open Go.RowKit Go.Proofs.YtgnmhbkialgeaaaW.PrintWords Go.Proofs.YtgnmhbkialgeaaaW.PrintLast Go.Proofs.YtgnmhbkialgeaaaW.PrintMore
attribute [local go_sem] max2_int min2_int max_two min_two max_three min_three max_four min_four   -- for this text's walks alone
open Go.Proofs.Ytgnmhbkialgeaaa.Q
attribute [local go_sem high] Go.Proofs.Ytgnmhbkialgeaaa.px_xor_u8 Go.Proofs.Ytgnmhbkialgeaaa.px_xor_u16 Go.Proofs.Ytgnmhbkialgeaaa.px_xor_u32 Go.Proofs.Ytgnmhbkialgeaaa.px_xor_u64
set_option linter.unusedVariables false
set_option linter.unusedSimpArgs false



def errW : Option Int → Value
  | none => .nilIface
  | some c => .iface 0 (.int .i64 c)
theorem errW_none : errW none = .nilIface := rfl
theorem errW_some (c : Int) : errW (some c) = .iface 0 (.int .i64 c) := rfl

-- the values' own types

end Go.Proofs.Ytgnmhbkialgeaaa.R
end

section
/- The machine's side of laws of this seat: Go functions as Lean functions, and the proof that a call of each comes to what its function says (written by a program of this session, px.py, that runs the kit's print). -/
namespace Go.Proofs.Ytgnmhbkialgeaaa.R
open Go.RowKit Go.Proofs.YtgnmhbkialgeaaaW.PrintWords Go.Proofs.YtgnmhbkialgeaaaW.PrintLast Go.Proofs.YtgnmhbkialgeaaaW.PrintMore
attribute [local go_sem] max2_int min2_int max_two min_two max_three min_three max_four min_four   -- for this text's walks alone
open Go.Proofs.Ytgnmhbkialgeaaa.Q
attribute [local go_sem high] Go.Proofs.Ytgnmhbkialgeaaa.px_xor_u8 Go.Proofs.Ytgnmhbkialgeaaa.px_xor_u16 Go.Proofs.Ytgnmhbkialgeaaa.px_xor_u32 Go.Proofs.Ytgnmhbkialgeaaa.px_xor_u64
set_option linter.unusedVariables false
set_option linter.unusedSimpArgs false

theorem eqA23 (d : Nat) (w : World) (x0 y0 : Int) (x1 y1 : Int) (x2 y2 : Int) (x3 y3 : Int) (x4 y4 : Int) (x5 y5 : ByteArray) (x6 y6 : ByteArray) (x7 y7 : ByteArray) :
    (Op.equalIn (d + 2) 23 (.agg #[.int .i64 x0, .int .i64 x1, .int .i64 x2, .int .i64 x3, .int .i64 x4, .string x5, .string x6, .string x7]) (.agg #[.int .i64 y0, .int .i64 y1, .int .i64 y2, .int .i64 y3, .int .i64 y4, .string y5, .string y6, .string y7])).run Try.prog w = .ok (x0 == y0 && (x1 == y1 && (x2 == y2 && (x3 == y3 && (x4 == y4 && (x5.toList == y5.toList && (x6.toList == y6.toList && (x7.toList == y7.toList)))))))) w := by
  refine eqA_of Try.underlying23 (by kernel_rfl) ?_
  refine eqf_cons (by rfl) (by go_simp; rfl) (by go_simp; rfl) (by go_simp) ?_
  refine eqf_cons (by rfl) (by go_simp; rfl) (by go_simp; rfl) (by go_simp) ?_
  refine eqf_cons (by rfl) (by go_simp; rfl) (by go_simp; rfl) (by go_simp) ?_
  refine eqf_cons (by rfl) (by go_simp; rfl) (by go_simp; rfl) (by go_simp) ?_
  refine eqf_cons (by rfl) (by go_simp; rfl) (by go_simp; rfl) (by go_simp) ?_
  refine eqf_cons (by rfl) (by go_simp; rfl) (by go_simp; rfl) (by go_simp) ?_
  refine eqf_cons (by rfl) (by go_simp; rfl) (by go_simp; rfl) (by go_simp) ?_
  exact eqf_last (by rfl) (by go_simp; rfl) (by go_simp; rfl) (by go_simp)
theorem eqA32 (d : Nat) (w : World) (x0 y0 : Int) (x1 y1 : Int) (x2 y2 : Int) (x3 y3 : Int) (x4 y4 : Int) (x5 y5 : Int) (x6 y6 : Int) (x7 y7 : Int) (x8 y8 : Int) (x9 y9 : Int) (x10 y10 : Int) (x11 y11 : ByteArray) (x12 y12 : ByteArray) (x13 y13 : ByteArray) :
    (Op.equalIn (d + 3) 32 (.agg #[.int .i64 x0, .int .i64 x1, .int .i64 x2, .int .i64 x3, .int .i64 x4, .int .i64 x5, .int .i64 x6, .int .i64 x7, .int .i64 x8, .int .i64 x9, .int .i64 x10, .string x11, .string x12, .string x13]) (.agg #[.int .i64 y0, .int .i64 y1, .int .i64 y2, .int .i64 y3, .int .i64 y4, .int .i64 y5, .int .i64 y6, .int .i64 y7, .int .i64 y8, .int .i64 y9, .int .i64 y10, .string y11, .string y12, .string y13])).run Try.prog w = .ok (x0 == y0 && (x1 == y1 && (x2 == y2 && (x3 == y3 && (x4 == y4 && (x5 == y5 && ((x6 == y6 && (x7 == y7 && (x8 == y8 && (x9 == y9 && (x10 == y10 && (x11.toList == y11.toList && (x12.toList == y12.toList && (x13.toList == y13.toList))))))))))))))) w := by
  refine eqA_of Try.underlying32 (by kernel_rfl) ?_
  refine eqf_cons (by rfl) (by go_simp; rfl) (by go_simp; rfl) (by go_simp) ?_
  refine eqf_cons (by rfl) (by go_simp; rfl) (by go_simp; rfl) (by go_simp) ?_
  refine eqf_cons (by rfl) (by go_simp; rfl) (by go_simp; rfl) (by go_simp) ?_
  refine eqf_cons (by rfl) (by go_simp; rfl) (by go_simp; rfl) (by go_simp) ?_
  refine eqf_cons (by rfl) (by go_simp; rfl) (by go_simp; rfl) (by go_simp) ?_
  refine eqf_cons (by rfl) (by go_simp; rfl) (by go_simp; rfl) (by go_simp) ?_
  exact eqf_last (by rfl) (by go_simp) (by go_simp) (eqA23 (d + 0) w _ _ _ _ _ _ _ _ _ _ _ _ _ _ _ _)
end Go.Proofs.Ytgnmhbkialgeaaa.R
end
