/-
  No cell of these rows narrows 'for every input' (looked for: loops, veiled, ifaces, maps, wideKeys, modest, calm, conditions, laid).
  DERIVED. THE GIVEN ROWS OF THIS SEAT. 7 by the template 'for every input the law returns true; each argument reads behind the call as it read before'; 0 by the template 'total and deterministic' (their statements: YtiiljkinekjkbaaTotals.lean).
  GIVEN WITH THE SEED: the statements are not yours to turn. If you find one false, say at which input.
  Laid BY PROGRAM, IN A SANDBOX (cutbox-rows.mjs): the forced cells as the released guide's own fill.sh prints them over the translation 085d4ed0ff1b99c4… (all of the seat's roots in one cut). By AI agents, Wed Nov 11 2026. No macro, syntax, notation, axiom, sorry.
-/
import Derived.Test.YtiiljkinekjkbaaChecked
import GoSem.Claim
import GoSem.ClaimJoined
import GoSem.ClaimMapViews
import Derived.JoinedTies
import Derived.KernelRfl
namespace Go.Proofs.Ytiiljkinekjkbaa
/- THE CELL 'sum', in the pinned program and in every row, IS THE sha256 OF THE DUMP (.gsa) THAT YtiiljkinekjkbaaProg.lean LOADS. Nothing in Lean hashes anything: it is a label: what it is worth is what the hold of that sum in a sandbox is worth. -/
noncomputable def Try.pinned : Pinned := { name := "ytiiljkinekjkbaa", sum := "085d4ed0ff1b99c46f61e3e235a6dc4c4632a2a981cbd1a16947bbfc6272115f", checked := Try.checked }
namespace Rows
def none {H : Type} : Left H := { results := [], args := [] }

/-- 'copyholdlaw09.DataCuts': WHATEVER THE INPUT: true; the input reads as it did. -/
def dataCutsSpec : ChangeSpec := { name := "dataCuts", fn := fun _ => fun
  | [d1, d2] => { results := [.lit (.bool true)], args := [d1, d2] }
  | _ => none }
def dataCutsRow : OpenClaim := { program := "ytiiljkinekjkbaa", sum := "085d4ed0ff1b99c46f61e3e235a6dc4c4632a2a981cbd1a16947bbfc6272115f", func := "copyhold/copyholdlaw09.DataCuts", spec := "dataCuts", unfollowed := true, recurses := true, apart := false }
def DataCutsSaid : Prop := dataCutsRow.holds Try.pinned (OpenSpec.ofChange dataCutsSpec)

/-- ITS FALSE NEIGHBOUR: 'it returns false'. Refute it at one input. -/
def dataCutsWrong : ChangeSpec := { name := "dataCuts", fn := fun _ => fun
  | [d1, d2] => { results := [.lit (.bool false)], args := [d1, d2] }
  | _ => none }
def DataCutsWrongFalsely : Prop := dataCutsRow.holds Try.pinned (OpenSpec.ofChange dataCutsWrong)

/-- 'copyholdlaw09.DataBack': WHATEVER THE INPUT: true; the input reads as it did. -/
def dataBackSpec : ChangeSpec := { name := "dataBack", fn := fun _ => fun
  | [d1, d2, d3] => { results := [.lit (.bool true)], args := [d1, d2, d3] }
  | _ => none }
def dataBackRow : OpenClaim := { program := "ytiiljkinekjkbaa", sum := "085d4ed0ff1b99c46f61e3e235a6dc4c4632a2a981cbd1a16947bbfc6272115f", func := "copyhold/copyholdlaw09.DataBack", spec := "dataBack", unfollowed := true, recurses := true, apart := false }
def DataBackSaid : Prop := dataBackRow.holds Try.pinned (OpenSpec.ofChange dataBackSpec)

/-- ITS FALSE NEIGHBOUR: 'it returns false'. Refute it at one input. -/
def dataBackWrong : ChangeSpec := { name := "dataBack", fn := fun _ => fun
  | [d1, d2, d3] => { results := [.lit (.bool false)], args := [d1, d2, d3] }
  | _ => none }
def DataBackWrongFalsely : Prop := dataBackRow.holds Try.pinned (OpenSpec.ofChange dataBackWrong)

/-- 'copyholdlaw09.DataSplit': WHATEVER THE INPUT: true; the input reads as it did. -/
def dataSplitSpec : ChangeSpec := { name := "dataSplit", fn := fun _ => fun
  | [d] => { results := [.lit (.bool true)], args := [d] }
  | _ => none }
def dataSplitRow : OpenClaim := { program := "ytiiljkinekjkbaa", sum := "085d4ed0ff1b99c46f61e3e235a6dc4c4632a2a981cbd1a16947bbfc6272115f", func := "copyhold/copyholdlaw09.DataSplit", spec := "dataSplit", unfollowed := true, recurses := true, apart := false }
def DataSplitSaid : Prop := dataSplitRow.holds Try.pinned (OpenSpec.ofChange dataSplitSpec)

/-- ITS FALSE NEIGHBOUR: 'it returns false'. Refute it at one input. -/
def dataSplitWrong : ChangeSpec := { name := "dataSplit", fn := fun _ => fun
  | [d] => { results := [.lit (.bool false)], args := [d] }
  | _ => none }
def DataSplitWrongFalsely : Prop := dataSplitRow.holds Try.pinned (OpenSpec.ofChange dataSplitWrong)

/-- 'copyholdlaw09.DataSame': WHATEVER THE INPUT: true; the input reads as it did. -/
def dataSameSpec : ChangeSpec := { name := "dataSame", fn := fun _ => fun
  | [d1, d2] => { results := [.lit (.bool true)], args := [d1, d2] }
  | _ => none }
def dataSameRow : OpenClaim := { program := "ytiiljkinekjkbaa", sum := "085d4ed0ff1b99c46f61e3e235a6dc4c4632a2a981cbd1a16947bbfc6272115f", func := "copyhold/copyholdlaw09.DataSame", spec := "dataSame", unfollowed := true, recurses := true, apart := false }
def DataSameSaid : Prop := dataSameRow.holds Try.pinned (OpenSpec.ofChange dataSameSpec)

/-- ITS FALSE NEIGHBOUR: 'it returns false'. Refute it at one input. -/
def dataSameWrong : ChangeSpec := { name := "dataSame", fn := fun _ => fun
  | [d1, d2] => { results := [.lit (.bool false)], args := [d1, d2] }
  | _ => none }
def DataSameWrongFalsely : Prop := dataSameRow.holds Try.pinned (OpenSpec.ofChange dataSameWrong)

/-- 'copyholdlaw09.DataParts': WHATEVER THE INPUT: true; the input reads as it did. -/
def dataPartsSpec : ChangeSpec := { name := "dataParts", fn := fun _ => fun
  | [d] => { results := [.lit (.bool true)], args := [d] }
  | _ => none }
def dataPartsRow : OpenClaim := { program := "ytiiljkinekjkbaa", sum := "085d4ed0ff1b99c46f61e3e235a6dc4c4632a2a981cbd1a16947bbfc6272115f", func := "copyhold/copyholdlaw09.DataParts", spec := "dataParts", unfollowed := true, recurses := true, apart := false }
def DataPartsSaid : Prop := dataPartsRow.holds Try.pinned (OpenSpec.ofChange dataPartsSpec)

/-- ITS FALSE NEIGHBOUR: 'it returns false'. Refute it at one input. -/
def dataPartsWrong : ChangeSpec := { name := "dataParts", fn := fun _ => fun
  | [d] => { results := [.lit (.bool false)], args := [d] }
  | _ => none }
def DataPartsWrongFalsely : Prop := dataPartsRow.holds Try.pinned (OpenSpec.ofChange dataPartsWrong)

/-- 'copyholdlaw09.DataPieces': WHATEVER THE INPUT: true; the input reads as it did. -/
def dataPiecesSpec : ChangeSpec := { name := "dataPieces", fn := fun _ => fun
  | [d] => { results := [.lit (.bool true)], args := [d] }
  | _ => none }
def dataPiecesRow : OpenClaim := { program := "ytiiljkinekjkbaa", sum := "085d4ed0ff1b99c46f61e3e235a6dc4c4632a2a981cbd1a16947bbfc6272115f", func := "copyhold/copyholdlaw09.DataPieces", spec := "dataPieces", unfollowed := true, recurses := true, apart := false }
def DataPiecesSaid : Prop := dataPiecesRow.holds Try.pinned (OpenSpec.ofChange dataPiecesSpec)

/-- ITS FALSE NEIGHBOUR: 'it returns false'. Refute it at one input. -/
def dataPiecesWrong : ChangeSpec := { name := "dataPieces", fn := fun _ => fun
  | [d] => { results := [.lit (.bool false)], args := [d] }
  | _ => none }
def DataPiecesWrongFalsely : Prop := dataPiecesRow.holds Try.pinned (OpenSpec.ofChange dataPiecesWrong)

/-- 'copyholdlaw09.DataMends': WHATEVER THE INPUT: true; the input reads as it did. -/
def dataMendsSpec : ChangeSpec := { name := "dataMends", fn := fun _ => fun
  | [d1, d2] => { results := [.lit (.bool true)], args := [d1, d2] }
  | _ => none }
def dataMendsRow : OpenClaim := { program := "ytiiljkinekjkbaa", sum := "085d4ed0ff1b99c46f61e3e235a6dc4c4632a2a981cbd1a16947bbfc6272115f", func := "copyhold/copyholdlaw09.DataMends", spec := "dataMends", unfollowed := true, recurses := true, apart := false }
def DataMendsSaid : Prop := dataMendsRow.holds Try.pinned (OpenSpec.ofChange dataMendsSpec)

/-- ITS FALSE NEIGHBOUR: 'it returns false'. Refute it at one input. -/
def dataMendsWrong : ChangeSpec := { name := "dataMends", fn := fun _ => fun
  | [d1, d2] => { results := [.lit (.bool false)], args := [d1, d2] }
  | _ => none }
def DataMendsWrongFalsely : Prop := dataMendsRow.holds Try.pinned (OpenSpec.ofChange dataMendsWrong)

/- THE SECOND FORM. 'bulk': how many values and letters a reading holds, each counted each time it is reached (what is shared counts as often as it is met; a slice's spare places count too). A statement '..UptoSaid' is the law's where the arguments, and the package variables that the reading takes, are together of bulk at most 1048576: NARROWER than '..Said'. Prove '..Said' where nothing that the law and all that it calls make is longer than what came in: it says more and counts as full. Else prove '..UptoSaid'. A law counts once. -/
mutual
def uptoBulk {H : Type} : DataW H → Nat
  | .lit (.string bytes) => bytes.length + 1
  | .lit _ => 1
  | .nil => 1
  | .ptr d => uptoBulk d + 1
  | .slice elems spare => uptoBulkAll elems + uptoBulkAll spare + 1
  | .agg parts => uptoBulkAll parts + 1
  | .iface _ d => uptoBulk d + 1
  | .map entries => uptoBulkEntries entries + 1
  | .held _ => 1
def uptoBulkAll {H : Type} : List (DataW H) → Nat
  | [] => 0
  | d :: r => uptoBulk d + uptoBulkAll r
def uptoBulkEntries {H : Type} : List (Lit × DataW H) → Nat
  | [] => 0
  | x :: r => uptoBulkEntry x + uptoBulkEntries r
def uptoBulkEntry {H : Type} : Lit × DataW H → Nat
  | (.string bytes, d) => bytes.length + uptoBulk d + 1
  | (_, d) => uptoBulk d + 1
 end
def uptoSmall : (H : Type) → List (DataW H) → Bool := fun _ ds => decide (uptoBulkAll ds ≤ 1048576)
def OpenSpec.upto (s : _root_.Go.ChangeSpec) : _root_.Go.OpenSpec := { _root_.Go.OpenSpec.ofChange s with cond := some uptoSmall }

/-- 'copyholdlaw09.DataCuts', WHERE WHAT IT READS IS OF BULK AT MOST 1048576: true; the input reads as it did. -/
def dataCutsUptoRow : OpenClaim := { program := "ytiiljkinekjkbaa", sum := "085d4ed0ff1b99c46f61e3e235a6dc4c4632a2a981cbd1a16947bbfc6272115f", func := "copyhold/copyholdlaw09.DataCuts", spec := "dataCuts", unfollowed := true, recurses := true, apart := false, narrowed := true }
def DataCutsUptoSaid : Prop := dataCutsUptoRow.holds Try.pinned (OpenSpec.upto dataCutsSpec)

/-- 'copyholdlaw09.DataBack', WHERE WHAT IT READS IS OF BULK AT MOST 1048576: true; the input reads as it did. -/
def dataBackUptoRow : OpenClaim := { program := "ytiiljkinekjkbaa", sum := "085d4ed0ff1b99c46f61e3e235a6dc4c4632a2a981cbd1a16947bbfc6272115f", func := "copyhold/copyholdlaw09.DataBack", spec := "dataBack", unfollowed := true, recurses := true, apart := false, narrowed := true }
def DataBackUptoSaid : Prop := dataBackUptoRow.holds Try.pinned (OpenSpec.upto dataBackSpec)

/-- 'copyholdlaw09.DataSplit', WHERE WHAT IT READS IS OF BULK AT MOST 1048576: true; the input reads as it did. -/
def dataSplitUptoRow : OpenClaim := { program := "ytiiljkinekjkbaa", sum := "085d4ed0ff1b99c46f61e3e235a6dc4c4632a2a981cbd1a16947bbfc6272115f", func := "copyhold/copyholdlaw09.DataSplit", spec := "dataSplit", unfollowed := true, recurses := true, apart := false, narrowed := true }
def DataSplitUptoSaid : Prop := dataSplitUptoRow.holds Try.pinned (OpenSpec.upto dataSplitSpec)

/-- 'copyholdlaw09.DataSame', WHERE WHAT IT READS IS OF BULK AT MOST 1048576: true; the input reads as it did. -/
def dataSameUptoRow : OpenClaim := { program := "ytiiljkinekjkbaa", sum := "085d4ed0ff1b99c46f61e3e235a6dc4c4632a2a981cbd1a16947bbfc6272115f", func := "copyhold/copyholdlaw09.DataSame", spec := "dataSame", unfollowed := true, recurses := true, apart := false, narrowed := true }
def DataSameUptoSaid : Prop := dataSameUptoRow.holds Try.pinned (OpenSpec.upto dataSameSpec)

/-- 'copyholdlaw09.DataParts', WHERE WHAT IT READS IS OF BULK AT MOST 1048576: true; the input reads as it did. -/
def dataPartsUptoRow : OpenClaim := { program := "ytiiljkinekjkbaa", sum := "085d4ed0ff1b99c46f61e3e235a6dc4c4632a2a981cbd1a16947bbfc6272115f", func := "copyhold/copyholdlaw09.DataParts", spec := "dataParts", unfollowed := true, recurses := true, apart := false, narrowed := true }
def DataPartsUptoSaid : Prop := dataPartsUptoRow.holds Try.pinned (OpenSpec.upto dataPartsSpec)

/-- 'copyholdlaw09.DataPieces', WHERE WHAT IT READS IS OF BULK AT MOST 1048576: true; the input reads as it did. -/
def dataPiecesUptoRow : OpenClaim := { program := "ytiiljkinekjkbaa", sum := "085d4ed0ff1b99c46f61e3e235a6dc4c4632a2a981cbd1a16947bbfc6272115f", func := "copyhold/copyholdlaw09.DataPieces", spec := "dataPieces", unfollowed := true, recurses := true, apart := false, narrowed := true }
def DataPiecesUptoSaid : Prop := dataPiecesUptoRow.holds Try.pinned (OpenSpec.upto dataPiecesSpec)

/-- 'copyholdlaw09.DataMends', WHERE WHAT IT READS IS OF BULK AT MOST 1048576: true; the input reads as it did. -/
def dataMendsUptoRow : OpenClaim := { program := "ytiiljkinekjkbaa", sum := "085d4ed0ff1b99c46f61e3e235a6dc4c4632a2a981cbd1a16947bbfc6272115f", func := "copyhold/copyholdlaw09.DataMends", spec := "dataMends", unfollowed := true, recurses := true, apart := false, narrowed := true }
def DataMendsUptoSaid : Prop := dataMendsUptoRow.holds Try.pinned (OpenSpec.upto dataMendsSpec)

end Rows
end Go.Proofs.Ytiiljkinekjkbaa
