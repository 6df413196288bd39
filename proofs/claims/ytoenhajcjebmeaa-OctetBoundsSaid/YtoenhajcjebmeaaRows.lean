/-
  No cell of these rows narrows 'for every input' (looked for: loops, veiled, ifaces, maps, wideKeys, modest, calm, conditions, laid).
  DERIVED. THE GIVEN ROWS OF THIS SEAT. 7 by the template 'for every input the law returns true; each argument reads behind the call as it read before'; 0 by the template 'total and deterministic' (their statements: YtoenhajcjebmeaaTotals.lean).
  GIVEN WITH THE SEED: the statements are not yours to turn. If you find one false, say at which input.
  Laid BY PROGRAM, IN A SANDBOX (cutbox-rows.mjs): the forced cells as the released guide's own fill.sh prints them over the translation 196a076090a15893… (all of the seat's roots in one cut). By AI agents, Wed Nov 11 2026. No macro, syntax, notation, axiom, sorry.
-/
import Derived.Test.YtoenhajcjebmeaaChecked
import GoSem.Claim
import GoSem.ClaimJoined
import GoSem.ClaimMapViews
import Derived.JoinedTies
import Derived.KernelRfl
namespace Go.Proofs.Ytoenhajcjebmeaa
/- THE CELL 'sum', in the pinned program and in every row, IS THE sha256 OF THE DUMP (.gsa) THAT YtoenhajcjebmeaaProg.lean LOADS. Nothing in Lean hashes anything: it is a label: what it is worth is what the hold of that sum in a sandbox is worth. -/
noncomputable def Try.pinned : Pinned := { name := "ytoenhajcjebmeaa", sum := "196a076090a15893889a20093313966aaa12185540b71e37171b2f66b6b2d268", checked := Try.checked }
namespace Rows
def none {H : Type} : Left H := { results := [], args := [] }

/-- 'copyholdlaw01.OctetFolds': WHATEVER THE INPUT: true; the input reads as it did. -/
def octetFoldsSpec : ChangeSpec := { name := "octetFolds", fn := fun _ => fun
  | [d1, d2] => { results := [.lit (.bool true)], args := [d1, d2] }
  | _ => none }
def octetFoldsRow : OpenClaim := { program := "ytoenhajcjebmeaa", sum := "196a076090a15893889a20093313966aaa12185540b71e37171b2f66b6b2d268", func := "copyhold/copyholdlaw01.OctetFolds", spec := "octetFolds", inPlace := ["internal/abi.NoEscape", "internal/bytealg.MakeNoZero"], apart := false }
def OctetFoldsSaid : Prop := octetFoldsRow.holds Try.pinned (OpenSpec.ofChange octetFoldsSpec)

/-- ITS FALSE NEIGHBOUR: 'it returns false'. Refute it at one input. -/
def octetFoldsWrong : ChangeSpec := { name := "octetFolds", fn := fun _ => fun
  | [d1, d2] => { results := [.lit (.bool false)], args := [d1, d2] }
  | _ => none }
def OctetFoldsWrongFalsely : Prop := octetFoldsRow.holds Try.pinned (OpenSpec.ofChange octetFoldsWrong)

/-- 'copyholdlaw01.OctetLays': WHATEVER THE INPUT: true; the input reads as it did. -/
def octetLaysSpec : ChangeSpec := { name := "octetLays", fn := fun _ => fun
  | [d1, d2, d3] => { results := [.lit (.bool true)], args := [d1, d2, d3] }
  | _ => none }
def octetLaysRow : OpenClaim := { program := "ytoenhajcjebmeaa", sum := "196a076090a15893889a20093313966aaa12185540b71e37171b2f66b6b2d268", func := "copyhold/copyholdlaw01.OctetLays", spec := "octetLays", inPlace := ["internal/abi.NoEscape", "internal/bytealg.MakeNoZero"], recurses := true, apart := false }
def OctetLaysSaid : Prop := octetLaysRow.holds Try.pinned (OpenSpec.ofChange octetLaysSpec)

/-- ITS FALSE NEIGHBOUR: 'it returns false'. Refute it at one input. -/
def octetLaysWrong : ChangeSpec := { name := "octetLays", fn := fun _ => fun
  | [d1, d2, d3] => { results := [.lit (.bool false)], args := [d1, d2, d3] }
  | _ => none }
def OctetLaysWrongFalsely : Prop := octetLaysRow.holds Try.pinned (OpenSpec.ofChange octetLaysWrong)

/-- 'copyholdlaw01.OctetRows': WHATEVER THE INPUT: true; the input reads as it did. -/
def octetRowsSpec : ChangeSpec := { name := "octetRows", fn := fun _ => fun
  | [d1, d2, d3] => { results := [.lit (.bool true)], args := [d1, d2, d3] }
  | _ => none }
def octetRowsRow : OpenClaim := { program := "ytoenhajcjebmeaa", sum := "196a076090a15893889a20093313966aaa12185540b71e37171b2f66b6b2d268", func := "copyhold/copyholdlaw01.OctetRows", spec := "octetRows", inPlace := ["internal/abi.NoEscape", "internal/bytealg.MakeNoZero"], apart := false }
def OctetRowsSaid : Prop := octetRowsRow.holds Try.pinned (OpenSpec.ofChange octetRowsSpec)

/-- ITS FALSE NEIGHBOUR: 'it returns false'. Refute it at one input. -/
def octetRowsWrong : ChangeSpec := { name := "octetRows", fn := fun _ => fun
  | [d1, d2, d3] => { results := [.lit (.bool false)], args := [d1, d2, d3] }
  | _ => none }
def OctetRowsWrongFalsely : Prop := octetRowsRow.holds Try.pinned (OpenSpec.ofChange octetRowsWrong)

/-- 'copyholdlaw01.OctetTakes': WHATEVER THE INPUT: true; the input reads as it did. -/
def octetTakesSpec : ChangeSpec := { name := "octetTakes", fn := fun _ => fun
  | [d1, d2, d3] => { results := [.lit (.bool true)], args := [d1, d2, d3] }
  | _ => none }
def octetTakesRow : OpenClaim := { program := "ytoenhajcjebmeaa", sum := "196a076090a15893889a20093313966aaa12185540b71e37171b2f66b6b2d268", func := "copyhold/copyholdlaw01.OctetTakes", spec := "octetTakes", inPlace := ["internal/abi.NoEscape", "internal/bytealg.MakeNoZero"], unfollowed := true, recurses := true, apart := false }
def OctetTakesSaid : Prop := octetTakesRow.holds Try.pinned (OpenSpec.ofChange octetTakesSpec)

/-- ITS FALSE NEIGHBOUR: 'it returns false'. Refute it at one input. -/
def octetTakesWrong : ChangeSpec := { name := "octetTakes", fn := fun _ => fun
  | [d1, d2, d3] => { results := [.lit (.bool false)], args := [d1, d2, d3] }
  | _ => none }
def OctetTakesWrongFalsely : Prop := octetTakesRow.holds Try.pinned (OpenSpec.ofChange octetTakesWrong)

/-- 'copyholdlaw01.OctetBack': WHATEVER THE INPUT: true; the input reads as it did. -/
def octetBackSpec : ChangeSpec := { name := "octetBack", fn := fun _ => fun
  | [d] => { results := [.lit (.bool true)], args := [d] }
  | _ => none }
def octetBackRow : OpenClaim := { program := "ytoenhajcjebmeaa", sum := "196a076090a15893889a20093313966aaa12185540b71e37171b2f66b6b2d268", func := "copyhold/copyholdlaw01.OctetBack", spec := "octetBack", inPlace := ["internal/abi.NoEscape", "internal/bytealg.MakeNoZero"], unfollowed := true, recurses := true, apart := false }
def OctetBackSaid : Prop := octetBackRow.holds Try.pinned (OpenSpec.ofChange octetBackSpec)

/-- ITS FALSE NEIGHBOUR: 'it returns false'. Refute it at one input. -/
def octetBackWrong : ChangeSpec := { name := "octetBack", fn := fun _ => fun
  | [d] => { results := [.lit (.bool false)], args := [d] }
  | _ => none }
def OctetBackWrongFalsely : Prop := octetBackRow.holds Try.pinned (OpenSpec.ofChange octetBackWrong)

/-- 'copyholdlaw01.OctetOnly': WHATEVER THE INPUT: true; the input reads as it did. -/
def octetOnlySpec : ChangeSpec := { name := "octetOnly", fn := fun _ => fun
  | [d1, d2, d3] => { results := [.lit (.bool true)], args := [d1, d2, d3] }
  | _ => none }
def octetOnlyRow : OpenClaim := { program := "ytoenhajcjebmeaa", sum := "196a076090a15893889a20093313966aaa12185540b71e37171b2f66b6b2d268", func := "copyhold/copyholdlaw01.OctetOnly", spec := "octetOnly", inPlace := ["internal/abi.NoEscape", "internal/bytealg.MakeNoZero"], unfollowed := true, recurses := true, apart := false }
def OctetOnlySaid : Prop := octetOnlyRow.holds Try.pinned (OpenSpec.ofChange octetOnlySpec)

/-- ITS FALSE NEIGHBOUR: 'it returns false'. Refute it at one input. -/
def octetOnlyWrong : ChangeSpec := { name := "octetOnly", fn := fun _ => fun
  | [d1, d2, d3] => { results := [.lit (.bool false)], args := [d1, d2, d3] }
  | _ => none }
def OctetOnlyWrongFalsely : Prop := octetOnlyRow.holds Try.pinned (OpenSpec.ofChange octetOnlyWrong)

/-- 'copyholdlaw01.OctetBounds': WHATEVER THE INPUT: true; the input reads as it did. -/
def octetBoundsSpec : ChangeSpec := { name := "octetBounds", fn := fun _ => fun
  | [d1, d2, d3] => { results := [.lit (.bool true)], args := [d1, d2, d3] }
  | _ => none }
def octetBoundsRow : OpenClaim := { program := "ytoenhajcjebmeaa", sum := "196a076090a15893889a20093313966aaa12185540b71e37171b2f66b6b2d268", func := "copyhold/copyholdlaw01.OctetBounds", spec := "octetBounds", inPlace := ["internal/abi.NoEscape", "internal/bytealg.MakeNoZero"], unfollowed := true, recurses := true, apart := false }
def OctetBoundsSaid : Prop := octetBoundsRow.holds Try.pinned (OpenSpec.ofChange octetBoundsSpec)

/-- ITS FALSE NEIGHBOUR: 'it returns false'. Refute it at one input. -/
def octetBoundsWrong : ChangeSpec := { name := "octetBounds", fn := fun _ => fun
  | [d1, d2, d3] => { results := [.lit (.bool false)], args := [d1, d2, d3] }
  | _ => none }
def OctetBoundsWrongFalsely : Prop := octetBoundsRow.holds Try.pinned (OpenSpec.ofChange octetBoundsWrong)

/- THE SECOND FORM. 'bulk': how many values and letters a reading holds, each counted each time it is reached (what is shared counts as often as it is met; a slice's spare places count too). A statement '..UptoSaid' is the law's where the arguments, and the package variables that the reading takes, are together of bulk at most 1048576: NARROWER than '..Said'. Prove '..Said' where nothing that the law and all that it calls make is longer than what came in: it says more and counts as full. Else prove '..UptoSaid'. A law counts once. -/
mutual
def uptoBulk {H : Type} : DataW H → Nat
  | .lit (.string bytes) => bytes.length + 1
  | .lit _ => 1
  | .nil => 1
  | .ptr d => uptoBulk d + 1
  | .slice elems spare => uptoBulkAll elems + uptoBulkAll spare + 1
  | .agg parts => uptoBulkAll parts + 1
  | .iface _ d => uptoBulk d + 1
  | .map entries => uptoBulkEntries entries + 1
  | .held _ => 1
def uptoBulkAll {H : Type} : List (DataW H) → Nat
  | [] => 0
  | d :: r => uptoBulk d + uptoBulkAll r
def uptoBulkEntries {H : Type} : List (Lit × DataW H) → Nat
  | [] => 0
  | x :: r => uptoBulkEntry x + uptoBulkEntries r
def uptoBulkEntry {H : Type} : Lit × DataW H → Nat
  | (.string bytes, d) => bytes.length + uptoBulk d + 1
  | (_, d) => uptoBulk d + 1
 end
def uptoSmall : (H : Type) → List (DataW H) → Bool := fun _ ds => decide (uptoBulkAll ds ≤ 1048576)
def OpenSpec.upto (s : _root_.Go.ChangeSpec) : _root_.Go.OpenSpec := { _root_.Go.OpenSpec.ofChange s with cond := some uptoSmall }

/-- 'copyholdlaw01.OctetFolds', WHERE WHAT IT READS IS OF BULK AT MOST 1048576: true; the input reads as it did. -/
def octetFoldsUptoRow : OpenClaim := { program := "ytoenhajcjebmeaa", sum := "196a076090a15893889a20093313966aaa12185540b71e37171b2f66b6b2d268", func := "copyhold/copyholdlaw01.OctetFolds", spec := "octetFolds", inPlace := ["internal/abi.NoEscape", "internal/bytealg.MakeNoZero"], apart := false, narrowed := true }
def OctetFoldsUptoSaid : Prop := octetFoldsUptoRow.holds Try.pinned (OpenSpec.upto octetFoldsSpec)

/-- 'copyholdlaw01.OctetLays', WHERE WHAT IT READS IS OF BULK AT MOST 1048576: true; the input reads as it did. -/
def octetLaysUptoRow : OpenClaim := { program := "ytoenhajcjebmeaa", sum := "196a076090a15893889a20093313966aaa12185540b71e37171b2f66b6b2d268", func := "copyhold/copyholdlaw01.OctetLays", spec := "octetLays", inPlace := ["internal/abi.NoEscape", "internal/bytealg.MakeNoZero"], recurses := true, apart := false, narrowed := true }
def OctetLaysUptoSaid : Prop := octetLaysUptoRow.holds Try.pinned (OpenSpec.upto octetLaysSpec)

/-- 'copyholdlaw01.OctetRows', WHERE WHAT IT READS IS OF BULK AT MOST 1048576: true; the input reads as it did. -/
def octetRowsUptoRow : OpenClaim := { program := "ytoenhajcjebmeaa", sum := "196a076090a15893889a20093313966aaa12185540b71e37171b2f66b6b2d268", func := "copyhold/copyholdlaw01.OctetRows", spec := "octetRows", inPlace := ["internal/abi.NoEscape", "internal/bytealg.MakeNoZero"], apart := false, narrowed := true }
def OctetRowsUptoSaid : Prop := octetRowsUptoRow.holds Try.pinned (OpenSpec.upto octetRowsSpec)

/-- 'copyholdlaw01.OctetTakes', WHERE WHAT IT READS IS OF BULK AT MOST 1048576: true; the input reads as it did. -/
def octetTakesUptoRow : OpenClaim := { program := "ytoenhajcjebmeaa", sum := "196a076090a15893889a20093313966aaa12185540b71e37171b2f66b6b2d268", func := "copyhold/copyholdlaw01.OctetTakes", spec := "octetTakes", inPlace := ["internal/abi.NoEscape", "internal/bytealg.MakeNoZero"], unfollowed := true, recurses := true, apart := false, narrowed := true }
def OctetTakesUptoSaid : Prop := octetTakesUptoRow.holds Try.pinned (OpenSpec.upto octetTakesSpec)

/-- 'copyholdlaw01.OctetBack', WHERE WHAT IT READS IS OF BULK AT MOST 1048576: true; the input reads as it did. -/
def octetBackUptoRow : OpenClaim := { program := "ytoenhajcjebmeaa", sum := "196a076090a15893889a20093313966aaa12185540b71e37171b2f66b6b2d268", func := "copyhold/copyholdlaw01.OctetBack", spec := "octetBack", inPlace := ["internal/abi.NoEscape", "internal/bytealg.MakeNoZero"], unfollowed := true, recurses := true, apart := false, narrowed := true }
def OctetBackUptoSaid : Prop := octetBackUptoRow.holds Try.pinned (OpenSpec.upto octetBackSpec)

/-- 'copyholdlaw01.OctetOnly', WHERE WHAT IT READS IS OF BULK AT MOST 1048576: true; the input reads as it did. -/
def octetOnlyUptoRow : OpenClaim := { program := "ytoenhajcjebmeaa", sum := "196a076090a15893889a20093313966aaa12185540b71e37171b2f66b6b2d268", func := "copyhold/copyholdlaw01.OctetOnly", spec := "octetOnly", inPlace := ["internal/abi.NoEscape", "internal/bytealg.MakeNoZero"], unfollowed := true, recurses := true, apart := false, narrowed := true }
def OctetOnlyUptoSaid : Prop := octetOnlyUptoRow.holds Try.pinned (OpenSpec.upto octetOnlySpec)

/-- 'copyholdlaw01.OctetBounds', WHERE WHAT IT READS IS OF BULK AT MOST 1048576: true; the input reads as it did. -/
def octetBoundsUptoRow : OpenClaim := { program := "ytoenhajcjebmeaa", sum := "196a076090a15893889a20093313966aaa12185540b71e37171b2f66b6b2d268", func := "copyhold/copyholdlaw01.OctetBounds", spec := "octetBounds", inPlace := ["internal/abi.NoEscape", "internal/bytealg.MakeNoZero"], unfollowed := true, recurses := true, apart := false, narrowed := true }
def OctetBoundsUptoSaid : Prop := octetBoundsUptoRow.holds Try.pinned (OpenSpec.upto octetBoundsSpec)

end Rows
end Go.Proofs.Ytoenhajcjebmeaa
