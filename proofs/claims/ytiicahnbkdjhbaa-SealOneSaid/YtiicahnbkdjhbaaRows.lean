/-
  No cell of these rows narrows 'for every input' (looked for: loops, veiled, ifaces, maps, wideKeys, modest, calm, conditions, laid).
  DERIVED. THE GIVEN ROWS OF THIS SEAT. 6 by the template 'for every input the law returns true; each argument reads behind the call as it read before'; 0 by the template 'total and deterministic' (their statements: YtiicahnbkdjhbaaTotals.lean).
  GIVEN WITH THE SEED: the statements are not yours to turn. If you find one false, say at which input.
  Laid BY PROGRAM, IN A SANDBOX (cutbox-rows.mjs): the forced cells as the released guide's own fill.sh prints them over the translation 0287a81c04597617… (all of the seat's roots in one cut). By AI agents, Wed Nov 11 2026. No macro, syntax, notation, axiom, sorry.
-/
import Derived.Test.YtiicahnbkdjhbaaChecked
import GoSem.Claim
import GoSem.ClaimJoined
import GoSem.ClaimMapViews
import Derived.JoinedTies
import Derived.KernelRfl
namespace Go.Proofs.Ytiicahnbkdjhbaa
/- THE CELL 'sum', in the pinned program and in every row, IS THE sha256 OF THE DUMP (.gsa) THAT YtiicahnbkdjhbaaProg.lean LOADS. Nothing in Lean hashes anything: it is a label: what it is worth is what the hold of that sum in a sandbox is worth. -/
noncomputable def Try.pinned : Pinned := { name := "ytiicahnbkdjhbaa", sum := "0287a81c04597617fe8f1add559aca12446f96099f1144a58f1195ca04cd6ee2", checked := Try.checked }
namespace Rows
def none {H : Type} : Left H := { results := [], args := [] }

/-- 'copyholdlaw02.SealSums': WHATEVER THE INPUT: true; the input reads as it did. -/
def sealSumsSpec : ChangeSpec := { name := "sealSums", fn := fun _ => fun
  | [d1, d2] => { results := [.lit (.bool true)], args := [d1, d2] }
  | _ => none }
def sealSumsRow : OpenClaim := { program := "ytiicahnbkdjhbaa", sum := "0287a81c04597617fe8f1add559aca12446f96099f1144a58f1195ca04cd6ee2", func := "copyhold/copyholdlaw02.SealSums", spec := "sealSums", unfollowed := true, recurses := true, apart := false }
def SealSumsSaid : Prop := sealSumsRow.holds Try.pinned (OpenSpec.ofChange sealSumsSpec)

/-- ITS FALSE NEIGHBOUR: 'it returns false'. Refute it at one input. -/
def sealSumsWrong : ChangeSpec := { name := "sealSums", fn := fun _ => fun
  | [d1, d2] => { results := [.lit (.bool false)], args := [d1, d2] }
  | _ => none }
def SealSumsWrongFalsely : Prop := sealSumsRow.holds Try.pinned (OpenSpec.ofChange sealSumsWrong)

/-- 'copyholdlaw02.SealPieces': WHATEVER THE INPUT: true; the input reads as it did. -/
def sealPiecesSpec : ChangeSpec := { name := "sealPieces", fn := fun _ => fun
  | [d1, d2, d3] => { results := [.lit (.bool true)], args := [d1, d2, d3] }
  | _ => none }
def sealPiecesRow : OpenClaim := { program := "ytiicahnbkdjhbaa", sum := "0287a81c04597617fe8f1add559aca12446f96099f1144a58f1195ca04cd6ee2", func := "copyhold/copyholdlaw02.SealPieces", spec := "sealPieces", unfollowed := true, recurses := true, apart := false }
def SealPiecesSaid : Prop := sealPiecesRow.holds Try.pinned (OpenSpec.ofChange sealPiecesSpec)

/-- ITS FALSE NEIGHBOUR: 'it returns false'. Refute it at one input. -/
def sealPiecesWrong : ChangeSpec := { name := "sealPieces", fn := fun _ => fun
  | [d1, d2, d3] => { results := [.lit (.bool false)], args := [d1, d2, d3] }
  | _ => none }
def SealPiecesWrongFalsely : Prop := sealPiecesRow.holds Try.pinned (OpenSpec.ofChange sealPiecesWrong)

/-- 'copyholdlaw02.SealOne': WHATEVER THE INPUT: true; the input reads as it did. -/
def sealOneSpec : ChangeSpec := { name := "sealOne", fn := fun _ => fun
  | [d1, d2, d3] => { results := [.lit (.bool true)], args := [d1, d2, d3] }
  | _ => none }
def sealOneRow : OpenClaim := { program := "ytiicahnbkdjhbaa", sum := "0287a81c04597617fe8f1add559aca12446f96099f1144a58f1195ca04cd6ee2", func := "copyhold/copyholdlaw02.SealOne", spec := "sealOne", unfollowed := true, recurses := true, apart := false }
def SealOneSaid : Prop := sealOneRow.holds Try.pinned (OpenSpec.ofChange sealOneSpec)

/-- ITS FALSE NEIGHBOUR: 'it returns false'. Refute it at one input. -/
def sealOneWrong : ChangeSpec := { name := "sealOne", fn := fun _ => fun
  | [d1, d2, d3] => { results := [.lit (.bool false)], args := [d1, d2, d3] }
  | _ => none }
def SealOneWrongFalsely : Prop := sealOneRow.holds Try.pinned (OpenSpec.ofChange sealOneWrong)

/-- 'copyholdlaw02.SealShort': WHATEVER THE INPUT: true; the input reads as it did. -/
def sealShortSpec : ChangeSpec := { name := "sealShort", fn := fun _ => fun
  | [d] => { results := [.lit (.bool true)], args := [d] }
  | _ => none }
def sealShortRow : OpenClaim := { program := "ytiicahnbkdjhbaa", sum := "0287a81c04597617fe8f1add559aca12446f96099f1144a58f1195ca04cd6ee2", func := "copyhold/copyholdlaw02.SealShort", spec := "sealShort", unfollowed := true, recurses := true, apart := false }
def SealShortSaid : Prop := sealShortRow.holds Try.pinned (OpenSpec.ofChange sealShortSpec)

/-- ITS FALSE NEIGHBOUR: 'it returns false'. Refute it at one input. -/
def sealShortWrong : ChangeSpec := { name := "sealShort", fn := fun _ => fun
  | [d] => { results := [.lit (.bool false)], args := [d] }
  | _ => none }
def SealShortWrongFalsely : Prop := sealShortRow.holds Try.pinned (OpenSpec.ofChange sealShortWrong)

/-- 'copyholdlaw02.SealTwo': WHATEVER THE INPUT: true; the input reads as it did. -/
def sealTwoSpec : ChangeSpec := { name := "sealTwo", fn := fun _ => fun
  | [d] => { results := [.lit (.bool true)], args := [d] }
  | _ => none }
def sealTwoRow : OpenClaim := { program := "ytiicahnbkdjhbaa", sum := "0287a81c04597617fe8f1add559aca12446f96099f1144a58f1195ca04cd6ee2", func := "copyhold/copyholdlaw02.SealTwo", spec := "sealTwo", unfollowed := true, recurses := true, apart := false }
def SealTwoSaid : Prop := sealTwoRow.holds Try.pinned (OpenSpec.ofChange sealTwoSpec)

/-- ITS FALSE NEIGHBOUR: 'it returns false'. Refute it at one input. -/
def sealTwoWrong : ChangeSpec := { name := "sealTwo", fn := fun _ => fun
  | [d] => { results := [.lit (.bool false)], args := [d] }
  | _ => none }
def SealTwoWrongFalsely : Prop := sealTwoRow.holds Try.pinned (OpenSpec.ofChange sealTwoWrong)

/-- 'copyholdlaw02.SealTwice': WHATEVER THE INPUT: true; the input reads as it did. -/
def sealTwiceSpec : ChangeSpec := { name := "sealTwice", fn := fun _ => fun
  | [d] => { results := [.lit (.bool true)], args := [d] }
  | _ => none }
def sealTwiceRow : OpenClaim := { program := "ytiicahnbkdjhbaa", sum := "0287a81c04597617fe8f1add559aca12446f96099f1144a58f1195ca04cd6ee2", func := "copyhold/copyholdlaw02.SealTwice", spec := "sealTwice", unfollowed := true, recurses := true, apart := false }
def SealTwiceSaid : Prop := sealTwiceRow.holds Try.pinned (OpenSpec.ofChange sealTwiceSpec)

/-- ITS FALSE NEIGHBOUR: 'it returns false'. Refute it at one input. -/
def sealTwiceWrong : ChangeSpec := { name := "sealTwice", fn := fun _ => fun
  | [d] => { results := [.lit (.bool false)], args := [d] }
  | _ => none }
def SealTwiceWrongFalsely : Prop := sealTwiceRow.holds Try.pinned (OpenSpec.ofChange sealTwiceWrong)

/- THE SECOND FORM. 'bulk': how many values and letters a reading holds, each counted each time it is reached (what is shared counts as often as it is met; a slice's spare places count too). A statement '..UptoSaid' is the law's where the arguments, and the package variables that the reading takes, are together of bulk at most 1048576: NARROWER than '..Said'. Prove '..Said' where nothing that the law and all that it calls make is longer than what came in: it says more and counts as full. Else prove '..UptoSaid'. A law counts once. -/
mutual
def uptoBulk {H : Type} : DataW H → Nat
  | .lit (.string bytes) => bytes.length + 1
  | .lit _ => 1
  | .nil => 1
  | .ptr d => uptoBulk d + 1
  | .slice elems spare => uptoBulkAll elems + uptoBulkAll spare + 1
  | .agg parts => uptoBulkAll parts + 1
  | .iface _ d => uptoBulk d + 1
  | .map entries => uptoBulkEntries entries + 1
  | .held _ => 1
def uptoBulkAll {H : Type} : List (DataW H) → Nat
  | [] => 0
  | d :: r => uptoBulk d + uptoBulkAll r
def uptoBulkEntries {H : Type} : List (Lit × DataW H) → Nat
  | [] => 0
  | x :: r => uptoBulkEntry x + uptoBulkEntries r
def uptoBulkEntry {H : Type} : Lit × DataW H → Nat
  | (.string bytes, d) => bytes.length + uptoBulk d + 1
  | (_, d) => uptoBulk d + 1
 end
def uptoSmall : (H : Type) → List (DataW H) → Bool := fun _ ds => decide (uptoBulkAll ds ≤ 1048576)
def OpenSpec.upto (s : _root_.Go.ChangeSpec) : _root_.Go.OpenSpec := { _root_.Go.OpenSpec.ofChange s with cond := some uptoSmall }

/-- 'copyholdlaw02.SealSums', WHERE WHAT IT READS IS OF BULK AT MOST 1048576: true; the input reads as it did. -/
def sealSumsUptoRow : OpenClaim := { program := "ytiicahnbkdjhbaa", sum := "0287a81c04597617fe8f1add559aca12446f96099f1144a58f1195ca04cd6ee2", func := "copyhold/copyholdlaw02.SealSums", spec := "sealSums", unfollowed := true, recurses := true, apart := false, narrowed := true }
def SealSumsUptoSaid : Prop := sealSumsUptoRow.holds Try.pinned (OpenSpec.upto sealSumsSpec)

/-- 'copyholdlaw02.SealPieces', WHERE WHAT IT READS IS OF BULK AT MOST 1048576: true; the input reads as it did. -/
def sealPiecesUptoRow : OpenClaim := { program := "ytiicahnbkdjhbaa", sum := "0287a81c04597617fe8f1add559aca12446f96099f1144a58f1195ca04cd6ee2", func := "copyhold/copyholdlaw02.SealPieces", spec := "sealPieces", unfollowed := true, recurses := true, apart := false, narrowed := true }
def SealPiecesUptoSaid : Prop := sealPiecesUptoRow.holds Try.pinned (OpenSpec.upto sealPiecesSpec)

/-- 'copyholdlaw02.SealOne', WHERE WHAT IT READS IS OF BULK AT MOST 1048576: true; the input reads as it did. -/
def sealOneUptoRow : OpenClaim := { program := "ytiicahnbkdjhbaa", sum := "0287a81c04597617fe8f1add559aca12446f96099f1144a58f1195ca04cd6ee2", func := "copyhold/copyholdlaw02.SealOne", spec := "sealOne", unfollowed := true, recurses := true, apart := false, narrowed := true }
def SealOneUptoSaid : Prop := sealOneUptoRow.holds Try.pinned (OpenSpec.upto sealOneSpec)

/-- 'copyholdlaw02.SealShort', WHERE WHAT IT READS IS OF BULK AT MOST 1048576: true; the input reads as it did. -/
def sealShortUptoRow : OpenClaim := { program := "ytiicahnbkdjhbaa", sum := "0287a81c04597617fe8f1add559aca12446f96099f1144a58f1195ca04cd6ee2", func := "copyhold/copyholdlaw02.SealShort", spec := "sealShort", unfollowed := true, recurses := true, apart := false, narrowed := true }
def SealShortUptoSaid : Prop := sealShortUptoRow.holds Try.pinned (OpenSpec.upto sealShortSpec)

/-- 'copyholdlaw02.SealTwo', WHERE WHAT IT READS IS OF BULK AT MOST 1048576: true; the input reads as it did. -/
def sealTwoUptoRow : OpenClaim := { program := "ytiicahnbkdjhbaa", sum := "0287a81c04597617fe8f1add559aca12446f96099f1144a58f1195ca04cd6ee2", func := "copyhold/copyholdlaw02.SealTwo", spec := "sealTwo", unfollowed := true, recurses := true, apart := false, narrowed := true }
def SealTwoUptoSaid : Prop := sealTwoUptoRow.holds Try.pinned (OpenSpec.upto sealTwoSpec)

/-- 'copyholdlaw02.SealTwice', WHERE WHAT IT READS IS OF BULK AT MOST 1048576: true; the input reads as it did. -/
def sealTwiceUptoRow : OpenClaim := { program := "ytiicahnbkdjhbaa", sum := "0287a81c04597617fe8f1add559aca12446f96099f1144a58f1195ca04cd6ee2", func := "copyhold/copyholdlaw02.SealTwice", spec := "sealTwice", unfollowed := true, recurses := true, apart := false, narrowed := true }
def SealTwiceUptoSaid : Prop := sealTwiceUptoRow.holds Try.pinned (OpenSpec.upto sealTwiceSpec)

end Rows
end Go.Proofs.Ytiicahnbkdjhbaa
