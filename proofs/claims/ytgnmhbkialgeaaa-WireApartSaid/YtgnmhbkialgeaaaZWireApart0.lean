import Derived.Laws.Unary
import Derived.WalkKit
/- Small lemmas by which the walks of this seat's printed texts spell what the kit's own set leaves open. -/
namespace Go.Proofs.Ytgnmhbkialgeaaa
theorem px_xor_u8 (n : Int) : Op.unary .xor (.int .u8 n) = Op.intBits .xor .u8 255 n := rfl
theorem px_xor_u16 (n : Int) : Op.unary .xor (.int .u16 n) = Op.intBits .xor .u16 65535 n := rfl
theorem px_xor_u32 (n : Int) : Op.unary .xor (.int .u32 n) = Op.intBits .xor .u32 4294967295 n := rfl
theorem px_xor_u64 (n : Int) : Op.unary .xor (.int .u64 n) = Op.intBits .xor .u64 18446744073709551615 n := rfl
end Go.Proofs.Ytgnmhbkialgeaaa
