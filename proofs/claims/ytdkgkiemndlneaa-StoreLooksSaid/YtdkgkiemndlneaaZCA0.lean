import Derived.Laws.Unary
import Derived.WalkKit
set_option linter.unusedVariables false
set_option linter.unusedSimpArgs false
namespace Go.Proofs.Ytdkgkiemndlneaa
theorem px_xor_u8 (n : Int) : Op.unary .xor (.int .u8 n) = Op.intBits .xor .u8 255 n := rfl
theorem px_xor_u16 (n : Int) : Op.unary .xor (.int .u16 n) = Op.intBits .xor .u16 65535 n := rfl
theorem px_xor_u32 (n : Int) : Op.unary .xor (.int .u32 n) = Op.intBits .xor .u32 4294967295 n := rfl
theorem px_xor_u64 (n : Int) : Op.unary .xor (.int .u64 n) = Op.intBits .xor .u64 18446744073709551615 n := rfl
theorem px_str_geq (t : TypeId) (a b : ByteArray) : binOp .geq t (.string a) (.string b) = pure (.bool !(Op.bytesLess a.toList b.toList)) := by simp [binOp, Op.stringOp]
theorem px_str_leq (t : TypeId) (a b : ByteArray) : binOp .leq t (.string a) (.string b) = pure (.bool (Op.bytesLess a.toList b.toList || a.toList == b.toList)) := by simp [binOp, Op.stringOp]
theorem px_str_gtr (t : TypeId) (a b : ByteArray) : binOp .gtr t (.string a) (.string b) = pure (.bool !(Op.bytesLess a.toList b.toList || a.toList == b.toList)) := by simp [binOp, Op.stringOp]
attribute [go_sem] px_str_geq px_str_leq px_str_gtr
end Go.Proofs.Ytdkgkiemndlneaa
