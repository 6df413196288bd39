/-
  No cell of these rows narrows 'for every input' (looked for: loops, veiled, ifaces, maps, wideKeys, modest, calm, conditions, laid).
  DERIVED. THE GIVEN ROWS OF THIS SEAT. 7 by the template 'for every input the law returns true; each argument reads behind the call as it read before'; 0 by the template 'total and deterministic' (their statements: YtcbfnfggnocndaaTotals.lean).
  GIVEN WITH THE SEED: the statements are not yours to turn. If you find one false, say at which input.
  Laid BY PROGRAM, IN A SANDBOX (cutbox-rows.mjs): the forced cells as the released guide's own fill.sh prints them over the translation 7a3bb2825fb34e53… (all of the seat's roots in one cut). By AI agents, Wed Nov 11 2026. No macro, syntax, notation, axiom, sorry.
-/
import Derived.Test.YtcbfnfggnocndaaChecked
import GoSem.Claim
import GoSem.ClaimJoined
import GoSem.ClaimMapViews
import Derived.JoinedTies
import Derived.KernelRfl
namespace Go.Proofs.Ytcbfnfggnocndaa
/- THE CELL 'sum', in the pinned program and in every row, IS THE sha256 OF THE DUMP (.gsa) THAT YtcbfnfggnocndaaProg.lean LOADS. Nothing in Lean hashes anything: it is a label: what it is worth is what the hold of that sum in a sandbox is worth. -/
noncomputable def Try.pinned : Pinned := { name := "ytcbfnfggnocndaa", sum := "7a3bb2825fb34e53d83f31159763f0c2f65b254b80330ed6412d455dac24a61a", checked := Try.checked }
namespace Rows
def none {H : Type} : Left H := { results := [], args := [] }

/-- 'copyholdlaw05.RedoFull': WHATEVER THE INPUT: true; the input reads as it did. -/
def redoFullSpec : ChangeSpec := { name := "redoFull", fn := fun _ => fun
  | [d] => { results := [.lit (.bool true)], args := [d] }
  | _ => none }
def redoFullRow : OpenClaim := { program := "ytcbfnfggnocndaa", sum := "7a3bb2825fb34e53d83f31159763f0c2f65b254b80330ed6412d455dac24a61a", func := "copyhold/copyholdlaw05.RedoFull", spec := "redoFull", inPlace := ["internal/abi.NoEscape", "internal/bytealg.MakeNoZero"], unfollowed := true, recurses := true, apart := false }
def RedoFullSaid : Prop := redoFullRow.holds Try.pinned (OpenSpec.ofChange redoFullSpec)

/-- ITS FALSE NEIGHBOUR: 'it returns false'. Refute it at one input. -/
def redoFullWrong : ChangeSpec := { name := "redoFull", fn := fun _ => fun
  | [d] => { results := [.lit (.bool false)], args := [d] }
  | _ => none }
def RedoFullWrongFalsely : Prop := redoFullRow.holds Try.pinned (OpenSpec.ofChange redoFullWrong)

/-- 'copyholdlaw05.RedoRecords': WHATEVER THE INPUT: true; the input reads as it did. -/
def redoRecordsSpec : ChangeSpec := { name := "redoRecords", fn := fun _ => fun
  | [d] => { results := [.lit (.bool true)], args := [d] }
  | _ => none }
def redoRecordsRow : OpenClaim := { program := "ytcbfnfggnocndaa", sum := "7a3bb2825fb34e53d83f31159763f0c2f65b254b80330ed6412d455dac24a61a", func := "copyhold/copyholdlaw05.RedoRecords", spec := "redoRecords", inPlace := ["internal/abi.NoEscape", "internal/bytealg.MakeNoZero"], unfollowed := true, recurses := true, apart := false }
def RedoRecordsSaid : Prop := redoRecordsRow.holds Try.pinned (OpenSpec.ofChange redoRecordsSpec)

/-- ITS FALSE NEIGHBOUR: 'it returns false'. Refute it at one input. -/
def redoRecordsWrong : ChangeSpec := { name := "redoRecords", fn := fun _ => fun
  | [d] => { results := [.lit (.bool false)], args := [d] }
  | _ => none }
def RedoRecordsWrongFalsely : Prop := redoRecordsRow.holds Try.pinned (OpenSpec.ofChange redoRecordsWrong)

/-- 'copyholdlaw05.RedoScans': WHATEVER THE INPUT: true; the input reads as it did. -/
def redoScansSpec : ChangeSpec := { name := "redoScans", fn := fun _ => fun
  | [d] => { results := [.lit (.bool true)], args := [d] }
  | _ => none }
def redoScansRow : OpenClaim := { program := "ytcbfnfggnocndaa", sum := "7a3bb2825fb34e53d83f31159763f0c2f65b254b80330ed6412d455dac24a61a", func := "copyhold/copyholdlaw05.RedoScans", spec := "redoScans", inPlace := ["internal/abi.NoEscape", "internal/bytealg.MakeNoZero"], unfollowed := true, recurses := true, apart := false }
def RedoScansSaid : Prop := redoScansRow.holds Try.pinned (OpenSpec.ofChange redoScansSpec)

/-- ITS FALSE NEIGHBOUR: 'it returns false'. Refute it at one input. -/
def redoScansWrong : ChangeSpec := { name := "redoScans", fn := fun _ => fun
  | [d] => { results := [.lit (.bool false)], args := [d] }
  | _ => none }
def RedoScansWrongFalsely : Prop := redoScansRow.holds Try.pinned (OpenSpec.ofChange redoScansWrong)

/-- 'copyholdlaw05.RedoCrash': WHATEVER THE INPUT: true; the input reads as it did. -/
def redoCrashSpec : ChangeSpec := { name := "redoCrash", fn := fun _ => fun
  | [d] => { results := [.lit (.bool true)], args := [d] }
  | _ => none }
def redoCrashRow : OpenClaim := { program := "ytcbfnfggnocndaa", sum := "7a3bb2825fb34e53d83f31159763f0c2f65b254b80330ed6412d455dac24a61a", func := "copyhold/copyholdlaw05.RedoCrash", spec := "redoCrash", inPlace := ["internal/abi.NoEscape", "internal/bytealg.MakeNoZero"], unfollowed := true, recurses := true, apart := false }
def RedoCrashSaid : Prop := redoCrashRow.holds Try.pinned (OpenSpec.ofChange redoCrashSpec)

/-- ITS FALSE NEIGHBOUR: 'it returns false'. Refute it at one input. -/
def redoCrashWrong : ChangeSpec := { name := "redoCrash", fn := fun _ => fun
  | [d] => { results := [.lit (.bool false)], args := [d] }
  | _ => none }
def RedoCrashWrongFalsely : Prop := redoCrashRow.holds Try.pinned (OpenSpec.ofChange redoCrashWrong)

/-- 'copyholdlaw05.RedoStays': WHATEVER THE INPUT: true; the input reads as it did. -/
def redoStaysSpec : ChangeSpec := { name := "redoStays", fn := fun _ => fun
  | [d] => { results := [.lit (.bool true)], args := [d] }
  | _ => none }
def redoStaysRow : OpenClaim := { program := "ytcbfnfggnocndaa", sum := "7a3bb2825fb34e53d83f31159763f0c2f65b254b80330ed6412d455dac24a61a", func := "copyhold/copyholdlaw05.RedoStays", spec := "redoStays", inPlace := ["internal/abi.NoEscape", "internal/bytealg.MakeNoZero"], unfollowed := true, recurses := true, apart := false }
def RedoStaysSaid : Prop := redoStaysRow.holds Try.pinned (OpenSpec.ofChange redoStaysSpec)

/-- ITS FALSE NEIGHBOUR: 'it returns false'. Refute it at one input. -/
def redoStaysWrong : ChangeSpec := { name := "redoStays", fn := fun _ => fun
  | [d] => { results := [.lit (.bool false)], args := [d] }
  | _ => none }
def RedoStaysWrongFalsely : Prop := redoStaysRow.holds Try.pinned (OpenSpec.ofChange redoStaysWrong)

/-- 'copyholdlaw05.RedoDrops': WHATEVER THE INPUT: true; the input reads as it did. -/
def redoDropsSpec : ChangeSpec := { name := "redoDrops", fn := fun _ => fun
  | [d] => { results := [.lit (.bool true)], args := [d] }
  | _ => none }
def redoDropsRow : OpenClaim := { program := "ytcbfnfggnocndaa", sum := "7a3bb2825fb34e53d83f31159763f0c2f65b254b80330ed6412d455dac24a61a", func := "copyhold/copyholdlaw05.RedoDrops", spec := "redoDrops", inPlace := ["internal/abi.NoEscape", "internal/bytealg.MakeNoZero"], unfollowed := true, recurses := true, apart := false }
def RedoDropsSaid : Prop := redoDropsRow.holds Try.pinned (OpenSpec.ofChange redoDropsSpec)

/-- ITS FALSE NEIGHBOUR: 'it returns false'. Refute it at one input. -/
def redoDropsWrong : ChangeSpec := { name := "redoDrops", fn := fun _ => fun
  | [d] => { results := [.lit (.bool false)], args := [d] }
  | _ => none }
def RedoDropsWrongFalsely : Prop := redoDropsRow.holds Try.pinned (OpenSpec.ofChange redoDropsWrong)

/-- 'copyholdlaw05.RedoEmpties': WHATEVER THE INPUT: true; the input reads as it did. -/
def redoEmptiesSpec : ChangeSpec := { name := "redoEmpties", fn := fun _ => fun
  | [d1, d2, d3] => { results := [.lit (.bool true)], args := [d1, d2, d3] }
  | _ => none }
def redoEmptiesRow : OpenClaim := { program := "ytcbfnfggnocndaa", sum := "7a3bb2825fb34e53d83f31159763f0c2f65b254b80330ed6412d455dac24a61a", func := "copyhold/copyholdlaw05.RedoEmpties", spec := "redoEmpties", inPlace := ["internal/abi.NoEscape", "internal/bytealg.MakeNoZero"], unfollowed := true, recurses := true, apart := false }
def RedoEmptiesSaid : Prop := redoEmptiesRow.holds Try.pinned (OpenSpec.ofChange redoEmptiesSpec)

/-- ITS FALSE NEIGHBOUR: 'it returns false'. Refute it at one input. -/
def redoEmptiesWrong : ChangeSpec := { name := "redoEmpties", fn := fun _ => fun
  | [d1, d2, d3] => { results := [.lit (.bool false)], args := [d1, d2, d3] }
  | _ => none }
def RedoEmptiesWrongFalsely : Prop := redoEmptiesRow.holds Try.pinned (OpenSpec.ofChange redoEmptiesWrong)

/- THE SECOND FORM. 'bulk': how many values and letters a reading holds, each counted each time it is reached (what is shared counts as often as it is met; a slice's spare places count too). A statement '..UptoSaid' is the law's where the arguments, and the package variables that the reading takes, are together of bulk at most 1048576: NARROWER than '..Said'. Prove '..Said' where nothing that the law and all that it calls make is longer than what came in: it says more and counts as full. Else prove '..UptoSaid'. A law counts once. -/
mutual
def uptoBulk {H : Type} : DataW H → Nat
  | .lit (.string bytes) => bytes.length + 1
  | .lit _ => 1
  | .nil => 1
  | .ptr d => uptoBulk d + 1
  | .slice elems spare => uptoBulkAll elems + uptoBulkAll spare + 1
  | .agg parts => uptoBulkAll parts + 1
  | .iface _ d => uptoBulk d + 1
  | .map entries => uptoBulkEntries entries + 1
  | .held _ => 1
def uptoBulkAll {H : Type} : List (DataW H) → Nat
  | [] => 0
  | d :: r => uptoBulk d + uptoBulkAll r
def uptoBulkEntries {H : Type} : List (Lit × DataW H) → Nat
  | [] => 0
  | x :: r => uptoBulkEntry x + uptoBulkEntries r
def uptoBulkEntry {H : Type} : Lit × DataW H → Nat
  | (.string bytes, d) => bytes.length + uptoBulk d + 1
  | (_, d) => uptoBulk d + 1
 end
def uptoSmall : (H : Type) → List (DataW H) → Bool := fun _ ds => decide (uptoBulkAll ds ≤ 1048576)
def OpenSpec.upto (s : _root_.Go.ChangeSpec) : _root_.Go.OpenSpec := { _root_.Go.OpenSpec.ofChange s with cond := some uptoSmall }

/-- 'copyholdlaw05.RedoFull', WHERE WHAT IT READS IS OF BULK AT MOST 1048576: true; the input reads as it did. -/
def redoFullUptoRow : OpenClaim := { program := "ytcbfnfggnocndaa", sum := "7a3bb2825fb34e53d83f31159763f0c2f65b254b80330ed6412d455dac24a61a", func := "copyhold/copyholdlaw05.RedoFull", spec := "redoFull", inPlace := ["internal/abi.NoEscape", "internal/bytealg.MakeNoZero"], unfollowed := true, recurses := true, apart := false, narrowed := true }
def RedoFullUptoSaid : Prop := redoFullUptoRow.holds Try.pinned (OpenSpec.upto redoFullSpec)

/-- 'copyholdlaw05.RedoRecords', WHERE WHAT IT READS IS OF BULK AT MOST 1048576: true; the input reads as it did. -/
def redoRecordsUptoRow : OpenClaim := { program := "ytcbfnfggnocndaa", sum := "7a3bb2825fb34e53d83f31159763f0c2f65b254b80330ed6412d455dac24a61a", func := "copyhold/copyholdlaw05.RedoRecords", spec := "redoRecords", inPlace := ["internal/abi.NoEscape", "internal/bytealg.MakeNoZero"], unfollowed := true, recurses := true, apart := false, narrowed := true }
def RedoRecordsUptoSaid : Prop := redoRecordsUptoRow.holds Try.pinned (OpenSpec.upto redoRecordsSpec)

/-- 'copyholdlaw05.RedoScans', WHERE WHAT IT READS IS OF BULK AT MOST 1048576: true; the input reads as it did. -/
def redoScansUptoRow : OpenClaim := { program := "ytcbfnfggnocndaa", sum := "7a3bb2825fb34e53d83f31159763f0c2f65b254b80330ed6412d455dac24a61a", func := "copyhold/copyholdlaw05.RedoScans", spec := "redoScans", inPlace := ["internal/abi.NoEscape", "internal/bytealg.MakeNoZero"], unfollowed := true, recurses := true, apart := false, narrowed := true }
def RedoScansUptoSaid : Prop := redoScansUptoRow.holds Try.pinned (OpenSpec.upto redoScansSpec)

/-- 'copyholdlaw05.RedoCrash', WHERE WHAT IT READS IS OF BULK AT MOST 1048576: true; the input reads as it did. -/
def redoCrashUptoRow : OpenClaim := { program := "ytcbfnfggnocndaa", sum := "7a3bb2825fb34e53d83f31159763f0c2f65b254b80330ed6412d455dac24a61a", func := "copyhold/copyholdlaw05.RedoCrash", spec := "redoCrash", inPlace := ["internal/abi.NoEscape", "internal/bytealg.MakeNoZero"], unfollowed := true, recurses := true, apart := false, narrowed := true }
def RedoCrashUptoSaid : Prop := redoCrashUptoRow.holds Try.pinned (OpenSpec.upto redoCrashSpec)

/-- 'copyholdlaw05.RedoStays', WHERE WHAT IT READS IS OF BULK AT MOST 1048576: true; the input reads as it did. -/
def redoStaysUptoRow : OpenClaim := { program := "ytcbfnfggnocndaa", sum := "7a3bb2825fb34e53d83f31159763f0c2f65b254b80330ed6412d455dac24a61a", func := "copyhold/copyholdlaw05.RedoStays", spec := "redoStays", inPlace := ["internal/abi.NoEscape", "internal/bytealg.MakeNoZero"], unfollowed := true, recurses := true, apart := false, narrowed := true }
def RedoStaysUptoSaid : Prop := redoStaysUptoRow.holds Try.pinned (OpenSpec.upto redoStaysSpec)

/-- 'copyholdlaw05.RedoDrops', WHERE WHAT IT READS IS OF BULK AT MOST 1048576: true; the input reads as it did. -/
def redoDropsUptoRow : OpenClaim := { program := "ytcbfnfggnocndaa", sum := "7a3bb2825fb34e53d83f31159763f0c2f65b254b80330ed6412d455dac24a61a", func := "copyhold/copyholdlaw05.RedoDrops", spec := "redoDrops", inPlace := ["internal/abi.NoEscape", "internal/bytealg.MakeNoZero"], unfollowed := true, recurses := true, apart := false, narrowed := true }
def RedoDropsUptoSaid : Prop := redoDropsUptoRow.holds Try.pinned (OpenSpec.upto redoDropsSpec)

/-- 'copyholdlaw05.RedoEmpties', WHERE WHAT IT READS IS OF BULK AT MOST 1048576: true; the input reads as it did. -/
def redoEmptiesUptoRow : OpenClaim := { program := "ytcbfnfggnocndaa", sum := "7a3bb2825fb34e53d83f31159763f0c2f65b254b80330ed6412d455dac24a61a", func := "copyhold/copyholdlaw05.RedoEmpties", spec := "redoEmpties", inPlace := ["internal/abi.NoEscape", "internal/bytealg.MakeNoZero"], unfollowed := true, recurses := true, apart := false, narrowed := true }
def RedoEmptiesUptoSaid : Prop := redoEmptiesUptoRow.holds Try.pinned (OpenSpec.upto redoEmptiesSpec)

end Rows
end Go.Proofs.Ytcbfnfggnocndaa
