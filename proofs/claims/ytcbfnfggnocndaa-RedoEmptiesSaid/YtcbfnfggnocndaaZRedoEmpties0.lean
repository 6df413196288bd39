import Derived.Test.YtcbfnfggnocndaaZRedo22
set_option linter.unusedVariables false
set_option linter.unusedSimpArgs false
namespace Go.Proofs.Ytcbfnfggnocndaa.Q
open Go.RowKit Go.Proofs.YtcbfnfggnocndaaW.PrintWords Go.Proofs.YtcbfnfggnocndaaW.PrintLast Go.Proofs.YtcbfnfggnocndaaW.PrintMore
attribute [local go_sem] max2_int min2_int max_two min_two max_three min_three max_four min_four   -- for this text's walks alone
attribute [local go_sem high] Go.Proofs.Ytcbfnfggnocndaa.px_xor_u8 Go.Proofs.Ytcbfnfggnocndaa.px_xor_u16 Go.Proofs.Ytcbfnfggnocndaa.px_xor_u32 Go.Proofs.Ytcbfnfggnocndaa.px_xor_u64
theorem eqA30 (d : Nat) (w : World) (x0 y0 : Int) (x1 y1 : Int) (x2 y2 : Int) (x3 y3 : Int) :
    (Op.equalIn (d + 2) 30 (.agg #[.int .i64 x0, .int .i64 x1, .int .u64 x2, .int .i64 x3]) (.agg #[.int .i64 y0, .int .i64 y1, .int .u64 y2, .int .i64 y3])).run Try.prog w = .ok (x0 == y0 && (x1 == y1 && (x2 == y2 && (x3 == y3)))) w := by
  refine eqA_of Try.underlying30 (by kernel_rfl) ?_
  refine eqf_cons (by rfl) (by go_simp; rfl) (by go_simp; rfl) (by go_simp) ?_
  refine eqf_cons (by rfl) (by go_simp; rfl) (by go_simp; rfl) (by go_simp) ?_
  refine eqf_cons (by rfl) (by go_simp; rfl) (by go_simp; rfl) (by go_simp) ?_
  exact eqf_last (by rfl) (by go_simp; rfl) (by go_simp; rfl) (by go_simp)
end Go.Proofs.Ytcbfnfggnocndaa.Q
