/-
  No cell of these rows narrows 'for every input' (looked for: loops, veiled, ifaces, maps, wideKeys, modest, calm, conditions, laid).
  DERIVED. THE GIVEN ROWS OF THIS SEAT. 7 by the template 'for every input the law returns true; each argument reads behind the call as it read before'; 0 by the template 'total and deterministic' (their statements: YtgnmhbkialgeaaaTotals.lean).
  GIVEN WITH THE SEED: the statements are not yours to turn. If you find one false, say at which input.
  Laid BY PROGRAM, IN A SANDBOX (cutbox-rows.mjs): the forced cells as the released guide's own fill.sh prints them over the translation f3caf28e57546a8b… (all of the seat's roots in one cut). By AI agents, Wed Nov 11 2026. No macro, syntax, notation, axiom, sorry.
-/
import Derived.Test.YtgnmhbkialgeaaaChecked
import GoSem.Claim
import GoSem.ClaimJoined
import GoSem.ClaimMapViews
import Derived.JoinedTies
import Derived.KernelRfl
namespace Go.Proofs.Ytgnmhbkialgeaaa
/- THE CELL 'sum', in the pinned program and in every row, IS THE sha256 OF THE DUMP (.gsa) THAT YtgnmhbkialgeaaaProg.lean LOADS. Nothing in Lean hashes anything: it is a label: what it is worth is what the hold of that sum in a sandbox is worth. -/
noncomputable def Try.pinned : Pinned := { name := "ytgnmhbkialgeaaa", sum := "f3caf28e57546a8b5fb5479cfa81b0104e941b88457976e3316faedfd881a1c3", checked := Try.checked }
namespace Rows
def none {H : Type} : Left H := { results := [], args := [] }

/-- 'copyholdlaw15.WireCalls': WHATEVER THE INPUT: true; the input reads as it did. -/
def wireCallsSpec : ChangeSpec := { name := "wireCalls", fn := fun _ => fun
  | [d1, d2, d3] => { results := [.lit (.bool true)], args := [d1, d2, d3] }
  | _ => none }
def wireCallsRow : OpenClaim := { program := "ytgnmhbkialgeaaa", sum := "f3caf28e57546a8b5fb5479cfa81b0104e941b88457976e3316faedfd881a1c3", func := "copyhold/copyholdlaw15.WireCalls", spec := "wireCalls", inPlace := ["internal/abi.NoEscape", "internal/bytealg.MakeNoZero"], unfollowed := true, recurses := true, apart := false }
def WireCallsSaid : Prop := wireCallsRow.holds Try.pinned (OpenSpec.ofChange wireCallsSpec)

/-- ITS FALSE NEIGHBOUR: 'it returns false'. Refute it at one input. -/
def wireCallsWrong : ChangeSpec := { name := "wireCalls", fn := fun _ => fun
  | [d1, d2, d3] => { results := [.lit (.bool false)], args := [d1, d2, d3] }
  | _ => none }
def WireCallsWrongFalsely : Prop := wireCallsRow.holds Try.pinned (OpenSpec.ofChange wireCallsWrong)

/-- 'copyholdlaw15.WireApart': WHATEVER THE INPUT: true; the input reads as it did. -/
def wireApartSpec : ChangeSpec := { name := "wireApart", fn := fun _ => fun
  | [d] => { results := [.lit (.bool true)], args := [d] }
  | _ => none }
def wireApartRow : OpenClaim := { program := "ytgnmhbkialgeaaa", sum := "f3caf28e57546a8b5fb5479cfa81b0104e941b88457976e3316faedfd881a1c3", func := "copyhold/copyholdlaw15.WireApart", spec := "wireApart", inPlace := ["internal/abi.NoEscape", "internal/bytealg.MakeNoZero"], unfollowed := true, recurses := true, apart := false }
def WireApartSaid : Prop := wireApartRow.holds Try.pinned (OpenSpec.ofChange wireApartSpec)

/-- ITS FALSE NEIGHBOUR: 'it returns false'. Refute it at one input. -/
def wireApartWrong : ChangeSpec := { name := "wireApart", fn := fun _ => fun
  | [d] => { results := [.lit (.bool false)], args := [d] }
  | _ => none }
def WireApartWrongFalsely : Prop := wireApartRow.holds Try.pinned (OpenSpec.ofChange wireApartWrong)

/-- 'copyholdlaw15.WireLays': WHATEVER THE INPUT: true; the input reads as it did. -/
def wireLaysSpec : ChangeSpec := { name := "wireLays", fn := fun _ => fun
  | [d1, d2, d3] => { results := [.lit (.bool true)], args := [d1, d2, d3] }
  | _ => none }
def wireLaysRow : OpenClaim := { program := "ytgnmhbkialgeaaa", sum := "f3caf28e57546a8b5fb5479cfa81b0104e941b88457976e3316faedfd881a1c3", func := "copyhold/copyholdlaw15.WireLays", spec := "wireLays", inPlace := ["internal/abi.NoEscape", "internal/bytealg.MakeNoZero"], unfollowed := true, recurses := true, apart := false }
def WireLaysSaid : Prop := wireLaysRow.holds Try.pinned (OpenSpec.ofChange wireLaysSpec)

/-- ITS FALSE NEIGHBOUR: 'it returns false'. Refute it at one input. -/
def wireLaysWrong : ChangeSpec := { name := "wireLays", fn := fun _ => fun
  | [d1, d2, d3] => { results := [.lit (.bool false)], args := [d1, d2, d3] }
  | _ => none }
def WireLaysWrongFalsely : Prop := wireLaysRow.holds Try.pinned (OpenSpec.ofChange wireLaysWrong)

/-- 'copyholdlaw15.WireTakes': WHATEVER THE INPUT: true; the input reads as it did. -/
def wireTakesSpec : ChangeSpec := { name := "wireTakes", fn := fun _ => fun
  | [d] => { results := [.lit (.bool true)], args := [d] }
  | _ => none }
def wireTakesRow : OpenClaim := { program := "ytgnmhbkialgeaaa", sum := "f3caf28e57546a8b5fb5479cfa81b0104e941b88457976e3316faedfd881a1c3", func := "copyhold/copyholdlaw15.WireTakes", spec := "wireTakes", inPlace := ["internal/abi.NoEscape", "internal/bytealg.MakeNoZero"], unfollowed := true, recurses := true, apart := false }
def WireTakesSaid : Prop := wireTakesRow.holds Try.pinned (OpenSpec.ofChange wireTakesSpec)

/-- ITS FALSE NEIGHBOUR: 'it returns false'. Refute it at one input. -/
def wireTakesWrong : ChangeSpec := { name := "wireTakes", fn := fun _ => fun
  | [d] => { results := [.lit (.bool false)], args := [d] }
  | _ => none }
def WireTakesWrongFalsely : Prop := wireTakesRow.holds Try.pinned (OpenSpec.ofChange wireTakesWrong)

/-- 'copyholdlaw15.WireOne': WHATEVER THE INPUT: true; the input reads as it did. -/
def wireOneSpec : ChangeSpec := { name := "wireOne", fn := fun _ => fun
  | [d] => { results := [.lit (.bool true)], args := [d] }
  | _ => none }
def wireOneRow : OpenClaim := { program := "ytgnmhbkialgeaaa", sum := "f3caf28e57546a8b5fb5479cfa81b0104e941b88457976e3316faedfd881a1c3", func := "copyhold/copyholdlaw15.WireOne", spec := "wireOne", inPlace := ["internal/abi.NoEscape", "internal/bytealg.MakeNoZero"], unfollowed := true, recurses := true, apart := false }
def WireOneSaid : Prop := wireOneRow.holds Try.pinned (OpenSpec.ofChange wireOneSpec)

/-- ITS FALSE NEIGHBOUR: 'it returns false'. Refute it at one input. -/
def wireOneWrong : ChangeSpec := { name := "wireOne", fn := fun _ => fun
  | [d] => { results := [.lit (.bool false)], args := [d] }
  | _ => none }
def WireOneWrongFalsely : Prop := wireOneRow.holds Try.pinned (OpenSpec.ofChange wireOneWrong)

/-- 'copyholdlaw15.WireBack': WHATEVER THE INPUT: true; the input reads as it did. -/
def wireBackSpec : ChangeSpec := { name := "wireBack", fn := fun _ => fun
  | [d1, d2, d3] => { results := [.lit (.bool true)], args := [d1, d2, d3] }
  | _ => none }
def wireBackRow : OpenClaim := { program := "ytgnmhbkialgeaaa", sum := "f3caf28e57546a8b5fb5479cfa81b0104e941b88457976e3316faedfd881a1c3", func := "copyhold/copyholdlaw15.WireBack", spec := "wireBack", inPlace := ["internal/abi.NoEscape", "internal/bytealg.MakeNoZero"], unfollowed := true, recurses := true, apart := false }
def WireBackSaid : Prop := wireBackRow.holds Try.pinned (OpenSpec.ofChange wireBackSpec)

/-- ITS FALSE NEIGHBOUR: 'it returns false'. Refute it at one input. -/
def wireBackWrong : ChangeSpec := { name := "wireBack", fn := fun _ => fun
  | [d1, d2, d3] => { results := [.lit (.bool false)], args := [d1, d2, d3] }
  | _ => none }
def WireBackWrongFalsely : Prop := wireBackRow.holds Try.pinned (OpenSpec.ofChange wireBackWrong)

/-- 'copyholdlaw15.WireOnly': WHATEVER THE INPUT: true; the input reads as it did. -/
def wireOnlySpec : ChangeSpec := { name := "wireOnly", fn := fun _ => fun
  | [d] => { results := [.lit (.bool true)], args := [d] }
  | _ => none }
def wireOnlyRow : OpenClaim := { program := "ytgnmhbkialgeaaa", sum := "f3caf28e57546a8b5fb5479cfa81b0104e941b88457976e3316faedfd881a1c3", func := "copyhold/copyholdlaw15.WireOnly", spec := "wireOnly", inPlace := ["internal/abi.NoEscape", "internal/bytealg.MakeNoZero"], unfollowed := true, recurses := true, apart := false }
def WireOnlySaid : Prop := wireOnlyRow.holds Try.pinned (OpenSpec.ofChange wireOnlySpec)

/-- ITS FALSE NEIGHBOUR: 'it returns false'. Refute it at one input. -/
def wireOnlyWrong : ChangeSpec := { name := "wireOnly", fn := fun _ => fun
  | [d] => { results := [.lit (.bool false)], args := [d] }
  | _ => none }
def WireOnlyWrongFalsely : Prop := wireOnlyRow.holds Try.pinned (OpenSpec.ofChange wireOnlyWrong)

/- THE SECOND FORM. 'bulk': how many values and letters a reading holds, each counted each time it is reached (what is shared counts as often as it is met; a slice's spare places count too). A statement '..UptoSaid' is the law's where the arguments, and the package variables that the reading takes, are together of bulk at most 1048576: NARROWER than '..Said'. Prove '..Said' where nothing that the law and all that it calls make is longer than what came in: it says more and counts as full. Else prove '..UptoSaid'. A law counts once. -/
mutual
def uptoBulk {H : Type} : DataW H → Nat
  | .lit (.string bytes) => bytes.length + 1
  | .lit _ => 1
  | .nil => 1
  | .ptr d => uptoBulk d + 1
  | .slice elems spare => uptoBulkAll elems + uptoBulkAll spare + 1
  | .agg parts => uptoBulkAll parts + 1
  | .iface _ d => uptoBulk d + 1
  | .map entries => uptoBulkEntries entries + 1
  | .held _ => 1
def uptoBulkAll {H : Type} : List (DataW H) → Nat
  | [] => 0
  | d :: r => uptoBulk d + uptoBulkAll r
def uptoBulkEntries {H : Type} : List (Lit × DataW H) → Nat
  | [] => 0
  | x :: r => uptoBulkEntry x + uptoBulkEntries r
def uptoBulkEntry {H : Type} : Lit × DataW H → Nat
  | (.string bytes, d) => bytes.length + uptoBulk d + 1
  | (_, d) => uptoBulk d + 1
 end
def uptoSmall : (H : Type) → List (DataW H) → Bool := fun _ ds => decide (uptoBulkAll ds ≤ 1048576)
def OpenSpec.upto (s : _root_.Go.ChangeSpec) : _root_.Go.OpenSpec := { _root_.Go.OpenSpec.ofChange s with cond := some uptoSmall }

/-- 'copyholdlaw15.WireCalls', WHERE WHAT IT READS IS OF BULK AT MOST 1048576: true; the input reads as it did. -/
def wireCallsUptoRow : OpenClaim := { program := "ytgnmhbkialgeaaa", sum := "f3caf28e57546a8b5fb5479cfa81b0104e941b88457976e3316faedfd881a1c3", func := "copyhold/copyholdlaw15.WireCalls", spec := "wireCalls", inPlace := ["internal/abi.NoEscape", "internal/bytealg.MakeNoZero"], unfollowed := true, recurses := true, apart := false, narrowed := true }
def WireCallsUptoSaid : Prop := wireCallsUptoRow.holds Try.pinned (OpenSpec.upto wireCallsSpec)

/-- 'copyholdlaw15.WireApart', WHERE WHAT IT READS IS OF BULK AT MOST 1048576: true; the input reads as it did. -/
def wireApartUptoRow : OpenClaim := { program := "ytgnmhbkialgeaaa", sum := "f3caf28e57546a8b5fb5479cfa81b0104e941b88457976e3316faedfd881a1c3", func := "copyhold/copyholdlaw15.WireApart", spec := "wireApart", inPlace := ["internal/abi.NoEscape", "internal/bytealg.MakeNoZero"], unfollowed := true, recurses := true, apart := false, narrowed := true }
def WireApartUptoSaid : Prop := wireApartUptoRow.holds Try.pinned (OpenSpec.upto wireApartSpec)

/-- 'copyholdlaw15.WireLays', WHERE WHAT IT READS IS OF BULK AT MOST 1048576: true; the input reads as it did. -/
def wireLaysUptoRow : OpenClaim := { program := "ytgnmhbkialgeaaa", sum := "f3caf28e57546a8b5fb5479cfa81b0104e941b88457976e3316faedfd881a1c3", func := "copyhold/copyholdlaw15.WireLays", spec := "wireLays", inPlace := ["internal/abi.NoEscape", "internal/bytealg.MakeNoZero"], unfollowed := true, recurses := true, apart := false, narrowed := true }
def WireLaysUptoSaid : Prop := wireLaysUptoRow.holds Try.pinned (OpenSpec.upto wireLaysSpec)

/-- 'copyholdlaw15.WireTakes', WHERE WHAT IT READS IS OF BULK AT MOST 1048576: true; the input reads as it did. -/
def wireTakesUptoRow : OpenClaim := { program := "ytgnmhbkialgeaaa", sum := "f3caf28e57546a8b5fb5479cfa81b0104e941b88457976e3316faedfd881a1c3", func := "copyhold/copyholdlaw15.WireTakes", spec := "wireTakes", inPlace := ["internal/abi.NoEscape", "internal/bytealg.MakeNoZero"], unfollowed := true, recurses := true, apart := false, narrowed := true }
def WireTakesUptoSaid : Prop := wireTakesUptoRow.holds Try.pinned (OpenSpec.upto wireTakesSpec)

/-- 'copyholdlaw15.WireOne', WHERE WHAT IT READS IS OF BULK AT MOST 1048576: true; the input reads as it did. -/
def wireOneUptoRow : OpenClaim := { program := "ytgnmhbkialgeaaa", sum := "f3caf28e57546a8b5fb5479cfa81b0104e941b88457976e3316faedfd881a1c3", func := "copyhold/copyholdlaw15.WireOne", spec := "wireOne", inPlace := ["internal/abi.NoEscape", "internal/bytealg.MakeNoZero"], unfollowed := true, recurses := true, apart := false, narrowed := true }
def WireOneUptoSaid : Prop := wireOneUptoRow.holds Try.pinned (OpenSpec.upto wireOneSpec)

/-- 'copyholdlaw15.WireBack', WHERE WHAT IT READS IS OF BULK AT MOST 1048576: true; the input reads as it did. -/
def wireBackUptoRow : OpenClaim := { program := "ytgnmhbkialgeaaa", sum := "f3caf28e57546a8b5fb5479cfa81b0104e941b88457976e3316faedfd881a1c3", func := "copyhold/copyholdlaw15.WireBack", spec := "wireBack", inPlace := ["internal/abi.NoEscape", "internal/bytealg.MakeNoZero"], unfollowed := true, recurses := true, apart := false, narrowed := true }
def WireBackUptoSaid : Prop := wireBackUptoRow.holds Try.pinned (OpenSpec.upto wireBackSpec)

/-- 'copyholdlaw15.WireOnly', WHERE WHAT IT READS IS OF BULK AT MOST 1048576: true; the input reads as it did. -/
def wireOnlyUptoRow : OpenClaim := { program := "ytgnmhbkialgeaaa", sum := "f3caf28e57546a8b5fb5479cfa81b0104e941b88457976e3316faedfd881a1c3", func := "copyhold/copyholdlaw15.WireOnly", spec := "wireOnly", inPlace := ["internal/abi.NoEscape", "internal/bytealg.MakeNoZero"], unfollowed := true, recurses := true, apart := false, narrowed := true }
def WireOnlyUptoSaid : Prop := wireOnlyUptoRow.holds Try.pinned (OpenSpec.upto wireOnlySpec)

end Rows
end Go.Proofs.Ytgnmhbkialgeaaa
