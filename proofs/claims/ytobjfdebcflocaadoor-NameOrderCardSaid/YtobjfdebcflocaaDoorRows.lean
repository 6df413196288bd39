/-
  NARROWER THAN 'FOR EVERY INPUT', by the rows' own cells (each row's printed sentence says how): NamePaths: laid · NameRows: laid · NameTurns: laid · NameBack: laid · NameOthers: laid · NameBad: laid · NameOrder: laid.
  DERIVED. THE GIVEN ROWS OF THIS SEAT. 7 by the template 'for every input the law returns true; each argument reads behind the call as it read before'; 0 by the template 'total and deterministic' (their statements: YtobjfdebcflocaaDoorTotals.lean).
  GIVEN WITH THE SEED: the statements are not yours to turn. If you find one false, say at which input.
  Laid BY PROGRAM, IN A SANDBOX (cutbox-rows.mjs): the forced cells as the released guide's own fill.sh prints them over the translation 0892713b58ca9494… (all of the seat's roots in one cut). By AI agents, Wed Nov 11 2026. No macro, syntax, notation, axiom, sorry.
-/
import Derived.Test.YtobjfdebcflocaaDoorChecked
import GoSem.PinnedTables
import GoSem.Claim
import GoSem.ClaimJoined
import GoSem.ClaimMapViews
import Derived.JoinedTies
import Derived.KernelRfl
namespace Go.Proofs.YtobjfdebcflocaaDoor
/- THE CELL 'sum', in the pinned program and in every row, IS THE sha256 OF THE DUMP (.gsa) THAT YtobjfdebcflocaaDoorProg.lean LOADS. Nothing in Lean hashes anything: it is a label: what it is worth is what the hold of that sum in a sandbox is worth. -/
noncomputable def Tryd.pinned : Pinned := { name := "ytobjfdebcflocaadoor", sum := "0892713b58ca94949dfbfebdd96323e89bf37433f61e767fa31a0f6d00daca66", checked := Tryd.checked }
namespace Rows
def none {H : Type} : Left H := { results := [], args := [] }

/- WHAT THE LISTED PACKAGE-LEVEL VARIABLES READ AS WHEN THE CALL BEGINS. Each datum BY PROGRAM (the guide's laid-datum.mjs) off the statement by which the dump's own 'gosem.cut.vars' lays the variable. In a bare row this is a premise. The card (YtobjfdebcflocaaDoorCards.lean) ties it to the program's text. -/
def laid_unicode_utf8_acceptRanges {H : Type} : DataW H := .agg [.agg [.lit (.int .u8 128), .lit (.int .u8 191)], .agg [.lit (.int .u8 160), .lit (.int .u8 191)], .agg [.lit (.int .u8 128), .lit (.int .u8 159)], .agg [.lit (.int .u8 144), .lit (.int .u8 191)], .agg [.lit (.int .u8 128), .lit (.int .u8 143)], .agg [.lit (.int .u8 0), .lit (.int .u8 0)], .agg [.lit (.int .u8 0), .lit (.int .u8 0)], .agg [.lit (.int .u8 0), .lit (.int .u8 0)], .agg [.lit (.int .u8 0), .lit (.int .u8 0)], .agg [.lit (.int .u8 0), .lit (.int .u8 0)], .agg [.lit (.int .u8 0), .lit (.int .u8 0)], .agg [.lit (.int .u8 0), .lit (.int .u8 0)], .agg [.lit (.int .u8 0), .lit (.int .u8 0)], .agg [.lit (.int .u8 0), .lit (.int .u8 0)], .agg [.lit (.int .u8 0), .lit (.int .u8 0)], .agg [.lit (.int .u8 0), .lit (.int .u8 0)]]
/-- One of Go's own tables, pinned by name: the form's constant. -/
def laid_unicode_utf8_first : DataW Unit := Go.Pinned.utf8First

/-- 'copyholdlaw06.NamePaths': WHATEVER THE INPUT: true; the input reads as it did. -/
def namePathsSpec : ChangeSpec := { name := "namePaths", fn := fun _ => fun
  | [d1, d2] => { results := [.lit (.bool true)], args := [d1, d2] }
  | _ => none }
def namePathsRow : OpenClaim := { program := "ytobjfdebcflocaadoor", sum := "0892713b58ca94949dfbfebdd96323e89bf37433f61e767fa31a0f6d00daca66", func := "copyhold/copyholdlaw06.NamePaths", spec := "namePaths", inPlace := ["internal/bytealg.CountString", "internal/bytealg.IndexByteString", "internal/bytealg.IndexString"], named := ["unicode/utf8.first", "unicode/utf8.acceptRanges", "internal/bytealg.MaxLen"], apart := false, laid := [("unicode/utf8.acceptRanges", laid_unicode_utf8_acceptRanges), ("unicode/utf8.first", laid_unicode_utf8_first)] }
def NamePathsSaid : Prop := namePathsRow.holds Tryd.pinned (OpenSpec.ofChange namePathsSpec)

/-- ITS FALSE NEIGHBOUR: 'it returns false'. Refute it at one input. -/
def namePathsWrong : ChangeSpec := { name := "namePaths", fn := fun _ => fun
  | [d1, d2] => { results := [.lit (.bool false)], args := [d1, d2] }
  | _ => none }
def NamePathsWrongFalsely : Prop := namePathsRow.holds Tryd.pinned (OpenSpec.ofChange namePathsWrong)

/-- 'copyholdlaw06.NameRows': WHATEVER THE INPUT: true; the input reads as it did. -/
def nameRowsSpec : ChangeSpec := { name := "nameRows", fn := fun _ => fun
  | [d1, d2] => { results := [.lit (.bool true)], args := [d1, d2] }
  | _ => none }
def nameRowsRow : OpenClaim := { program := "ytobjfdebcflocaadoor", sum := "0892713b58ca94949dfbfebdd96323e89bf37433f61e767fa31a0f6d00daca66", func := "copyhold/copyholdlaw06.NameRows", spec := "nameRows", inPlace := ["internal/bytealg.CountString", "internal/bytealg.IndexByteString", "internal/bytealg.IndexString", "internal/bytealg.abigen_runtime_cmpstring"], unfollowed := true, recurses := true, named := ["unicode/utf8.first", "unicode/utf8.acceptRanges", "internal/bytealg.MaxLen"], apart := false, laid := [("unicode/utf8.acceptRanges", laid_unicode_utf8_acceptRanges), ("unicode/utf8.first", laid_unicode_utf8_first)] }
def NameRowsSaid : Prop := nameRowsRow.holds Tryd.pinned (OpenSpec.ofChange nameRowsSpec)

/-- ITS FALSE NEIGHBOUR: 'it returns false'. Refute it at one input. -/
def nameRowsWrong : ChangeSpec := { name := "nameRows", fn := fun _ => fun
  | [d1, d2] => { results := [.lit (.bool false)], args := [d1, d2] }
  | _ => none }
def NameRowsWrongFalsely : Prop := nameRowsRow.holds Tryd.pinned (OpenSpec.ofChange nameRowsWrong)

/-- 'copyholdlaw06.NameTurns': WHATEVER THE INPUT: true; the input reads as it did. -/
def nameTurnsSpec : ChangeSpec := { name := "nameTurns", fn := fun _ => fun
  | [d1, d2, d3] => { results := [.lit (.bool true)], args := [d1, d2, d3] }
  | _ => none }
def nameTurnsRow : OpenClaim := { program := "ytobjfdebcflocaadoor", sum := "0892713b58ca94949dfbfebdd96323e89bf37433f61e767fa31a0f6d00daca66", func := "copyhold/copyholdlaw06.NameTurns", spec := "nameTurns", inPlace := ["internal/bytealg.CountString", "internal/bytealg.IndexByteString", "internal/bytealg.IndexString", "internal/bytealg.abigen_runtime_cmpstring", "slices.overlaps[copyhold/api.Entry]"], unfollowed := true, recurses := true, named := ["unicode/utf8.first", "unicode/utf8.acceptRanges", "internal/bytealg.MaxLen"], apart := false, laid := [("unicode/utf8.acceptRanges", laid_unicode_utf8_acceptRanges), ("unicode/utf8.first", laid_unicode_utf8_first)] }
def NameTurnsSaid : Prop := nameTurnsRow.holds Tryd.pinned (OpenSpec.ofChange nameTurnsSpec)

/-- ITS FALSE NEIGHBOUR: 'it returns false'. Refute it at one input. -/
def nameTurnsWrong : ChangeSpec := { name := "nameTurns", fn := fun _ => fun
  | [d1, d2, d3] => { results := [.lit (.bool false)], args := [d1, d2, d3] }
  | _ => none }
def NameTurnsWrongFalsely : Prop := nameTurnsRow.holds Tryd.pinned (OpenSpec.ofChange nameTurnsWrong)

/-- 'copyholdlaw06.NameBack': WHATEVER THE INPUT: true; the input reads as it did. -/
def nameBackSpec : ChangeSpec := { name := "nameBack", fn := fun _ => fun
  | [d1, d2, d3] => { results := [.lit (.bool true)], args := [d1, d2, d3] }
  | _ => none }
def nameBackRow : OpenClaim := { program := "ytobjfdebcflocaadoor", sum := "0892713b58ca94949dfbfebdd96323e89bf37433f61e767fa31a0f6d00daca66", func := "copyhold/copyholdlaw06.NameBack", spec := "nameBack", inPlace := ["internal/bytealg.CountString", "internal/bytealg.IndexByteString", "internal/bytealg.IndexString", "internal/bytealg.abigen_runtime_cmpstring", "slices.overlaps[copyhold/api.Entry]"], unfollowed := true, recurses := true, named := ["unicode/utf8.first", "unicode/utf8.acceptRanges", "internal/bytealg.MaxLen"], apart := false, laid := [("unicode/utf8.acceptRanges", laid_unicode_utf8_acceptRanges), ("unicode/utf8.first", laid_unicode_utf8_first)] }
def NameBackSaid : Prop := nameBackRow.holds Tryd.pinned (OpenSpec.ofChange nameBackSpec)

/-- ITS FALSE NEIGHBOUR: 'it returns false'. Refute it at one input. -/
def nameBackWrong : ChangeSpec := { name := "nameBack", fn := fun _ => fun
  | [d1, d2, d3] => { results := [.lit (.bool false)], args := [d1, d2, d3] }
  | _ => none }
def NameBackWrongFalsely : Prop := nameBackRow.holds Tryd.pinned (OpenSpec.ofChange nameBackWrong)

/-- 'copyholdlaw06.NameOthers': WHATEVER THE INPUT: true; the input reads as it did. -/
def nameOthersSpec : ChangeSpec := { name := "nameOthers", fn := fun _ => fun
  | [d] => { results := [.lit (.bool true)], args := [d] }
  | _ => none }
def nameOthersRow : OpenClaim := { program := "ytobjfdebcflocaadoor", sum := "0892713b58ca94949dfbfebdd96323e89bf37433f61e767fa31a0f6d00daca66", func := "copyhold/copyholdlaw06.NameOthers", spec := "nameOthers", inPlace := ["internal/bytealg.CountString", "internal/bytealg.IndexByteString", "internal/bytealg.IndexString", "internal/bytealg.abigen_runtime_cmpstring", "slices.overlaps[copyhold/api.Entry]"], unfollowed := true, recurses := true, named := ["unicode/utf8.first", "unicode/utf8.acceptRanges", "internal/bytealg.MaxLen"], apart := false, laid := [("unicode/utf8.acceptRanges", laid_unicode_utf8_acceptRanges), ("unicode/utf8.first", laid_unicode_utf8_first)] }
def NameOthersSaid : Prop := nameOthersRow.holds Tryd.pinned (OpenSpec.ofChange nameOthersSpec)

/-- ITS FALSE NEIGHBOUR: 'it returns false'. Refute it at one input. -/
def nameOthersWrong : ChangeSpec := { name := "nameOthers", fn := fun _ => fun
  | [d] => { results := [.lit (.bool false)], args := [d] }
  | _ => none }
def NameOthersWrongFalsely : Prop := nameOthersRow.holds Tryd.pinned (OpenSpec.ofChange nameOthersWrong)

/-- 'copyholdlaw06.NameBad': WHATEVER THE INPUT: true; the input reads as it did. -/
def nameBadSpec : ChangeSpec := { name := "nameBad", fn := fun _ => fun
  | [d1, d2] => { results := [.lit (.bool true)], args := [d1, d2] }
  | _ => none }
def nameBadRow : OpenClaim := { program := "ytobjfdebcflocaadoor", sum := "0892713b58ca94949dfbfebdd96323e89bf37433f61e767fa31a0f6d00daca66", func := "copyhold/copyholdlaw06.NameBad", spec := "nameBad", inPlace := ["internal/bytealg.CountString", "internal/bytealg.IndexByteString", "internal/bytealg.IndexString", "internal/bytealg.abigen_runtime_cmpstring", "slices.overlaps[copyhold/api.Entry]"], unfollowed := true, recurses := true, named := ["unicode/utf8.first", "unicode/utf8.acceptRanges", "internal/bytealg.MaxLen"], apart := false, laid := [("unicode/utf8.acceptRanges", laid_unicode_utf8_acceptRanges), ("unicode/utf8.first", laid_unicode_utf8_first)] }
def NameBadSaid : Prop := nameBadRow.holds Tryd.pinned (OpenSpec.ofChange nameBadSpec)

/-- ITS FALSE NEIGHBOUR: 'it returns false'. Refute it at one input. -/
def nameBadWrong : ChangeSpec := { name := "nameBad", fn := fun _ => fun
  | [d1, d2] => { results := [.lit (.bool false)], args := [d1, d2] }
  | _ => none }
def NameBadWrongFalsely : Prop := nameBadRow.holds Tryd.pinned (OpenSpec.ofChange nameBadWrong)

/-- 'copyholdlaw06.NameOrder': WHATEVER THE INPUT: true; the input reads as it did. -/
def nameOrderSpec : ChangeSpec := { name := "nameOrder", fn := fun _ => fun
  | [d] => { results := [.lit (.bool true)], args := [d] }
  | _ => none }
def nameOrderRow : OpenClaim := { program := "ytobjfdebcflocaadoor", sum := "0892713b58ca94949dfbfebdd96323e89bf37433f61e767fa31a0f6d00daca66", func := "copyhold/copyholdlaw06.NameOrder", spec := "nameOrder", inPlace := ["internal/bytealg.CountString", "internal/bytealg.IndexByteString", "internal/bytealg.IndexString", "internal/bytealg.abigen_runtime_cmpstring", "slices.overlaps[copyhold/api.Entry]"], unfollowed := true, recurses := true, named := ["unicode/utf8.first", "unicode/utf8.acceptRanges", "internal/bytealg.MaxLen"], apart := false, laid := [("unicode/utf8.acceptRanges", laid_unicode_utf8_acceptRanges), ("unicode/utf8.first", laid_unicode_utf8_first)] }
def NameOrderSaid : Prop := nameOrderRow.holds Tryd.pinned (OpenSpec.ofChange nameOrderSpec)

/-- ITS FALSE NEIGHBOUR: 'it returns false'. Refute it at one input. -/
def nameOrderWrong : ChangeSpec := { name := "nameOrder", fn := fun _ => fun
  | [d] => { results := [.lit (.bool false)], args := [d] }
  | _ => none }
def NameOrderWrongFalsely : Prop := nameOrderRow.holds Tryd.pinned (OpenSpec.ofChange nameOrderWrong)

/- THE SECOND FORM. 'bulk': how many values and letters a reading holds, each counted each time it is reached (what is shared counts as often as it is met; a slice's spare places count too). A statement '..UptoSaid' is the law's where the arguments, and the package variables that the reading takes, are together of bulk at most 1048576: NARROWER than '..Said'. Prove '..Said' where nothing that the law and all that it calls make is longer than what came in: it says more and counts as full. Else prove '..UptoSaid'. A law counts once. -/
mutual
def uptoBulk {H : Type} : DataW H → Nat
  | .lit (.string bytes) => bytes.length + 1
  | .lit _ => 1
  | .nil => 1
  | .ptr d => uptoBulk d + 1
  | .slice elems spare => uptoBulkAll elems + uptoBulkAll spare + 1
  | .agg parts => uptoBulkAll parts + 1
  | .iface _ d => uptoBulk d + 1
  | .map entries => uptoBulkEntries entries + 1
  | .held _ => 1
def uptoBulkAll {H : Type} : List (DataW H) → Nat
  | [] => 0
  | d :: r => uptoBulk d + uptoBulkAll r
def uptoBulkEntries {H : Type} : List (Lit × DataW H) → Nat
  | [] => 0
  | x :: r => uptoBulkEntry x + uptoBulkEntries r
def uptoBulkEntry {H : Type} : Lit × DataW H → Nat
  | (.string bytes, d) => bytes.length + uptoBulk d + 1
  | (_, d) => uptoBulk d + 1
 end
def uptoSmall : (H : Type) → List (DataW H) → Bool := fun _ ds => decide (uptoBulkAll ds ≤ 1048576)
def OpenSpec.upto (s : _root_.Go.ChangeSpec) : _root_.Go.OpenSpec := { _root_.Go.OpenSpec.ofChange s with cond := some uptoSmall }

/-- 'copyholdlaw06.NamePaths', WHERE WHAT IT READS IS OF BULK AT MOST 1048576: true; the input reads as it did. -/
def namePathsUptoRow : OpenClaim := { program := "ytobjfdebcflocaadoor", sum := "0892713b58ca94949dfbfebdd96323e89bf37433f61e767fa31a0f6d00daca66", func := "copyhold/copyholdlaw06.NamePaths", spec := "namePaths", inPlace := ["internal/bytealg.CountString", "internal/bytealg.IndexByteString", "internal/bytealg.IndexString"], named := ["unicode/utf8.first", "unicode/utf8.acceptRanges", "internal/bytealg.MaxLen"], apart := false, laid := [("unicode/utf8.acceptRanges", laid_unicode_utf8_acceptRanges), ("unicode/utf8.first", laid_unicode_utf8_first)], narrowed := true }
def NamePathsUptoSaid : Prop := namePathsUptoRow.holds Tryd.pinned (OpenSpec.upto namePathsSpec)

/-- 'copyholdlaw06.NameRows', WHERE WHAT IT READS IS OF BULK AT MOST 1048576: true; the input reads as it did. -/
def nameRowsUptoRow : OpenClaim := { program := "ytobjfdebcflocaadoor", sum := "0892713b58ca94949dfbfebdd96323e89bf37433f61e767fa31a0f6d00daca66", func := "copyhold/copyholdlaw06.NameRows", spec := "nameRows", inPlace := ["internal/bytealg.CountString", "internal/bytealg.IndexByteString", "internal/bytealg.IndexString", "internal/bytealg.abigen_runtime_cmpstring"], unfollowed := true, recurses := true, named := ["unicode/utf8.first", "unicode/utf8.acceptRanges", "internal/bytealg.MaxLen"], apart := false, laid := [("unicode/utf8.acceptRanges", laid_unicode_utf8_acceptRanges), ("unicode/utf8.first", laid_unicode_utf8_first)], narrowed := true }
def NameRowsUptoSaid : Prop := nameRowsUptoRow.holds Tryd.pinned (OpenSpec.upto nameRowsSpec)

/-- 'copyholdlaw06.NameTurns', WHERE WHAT IT READS IS OF BULK AT MOST 1048576: true; the input reads as it did. -/
def nameTurnsUptoRow : OpenClaim := { program := "ytobjfdebcflocaadoor", sum := "0892713b58ca94949dfbfebdd96323e89bf37433f61e767fa31a0f6d00daca66", func := "copyhold/copyholdlaw06.NameTurns", spec := "nameTurns", inPlace := ["internal/bytealg.CountString", "internal/bytealg.IndexByteString", "internal/bytealg.IndexString", "internal/bytealg.abigen_runtime_cmpstring", "slices.overlaps[copyhold/api.Entry]"], unfollowed := true, recurses := true, named := ["unicode/utf8.first", "unicode/utf8.acceptRanges", "internal/bytealg.MaxLen"], apart := false, laid := [("unicode/utf8.acceptRanges", laid_unicode_utf8_acceptRanges), ("unicode/utf8.first", laid_unicode_utf8_first)], narrowed := true }
def NameTurnsUptoSaid : Prop := nameTurnsUptoRow.holds Tryd.pinned (OpenSpec.upto nameTurnsSpec)

/-- 'copyholdlaw06.NameBack', WHERE WHAT IT READS IS OF BULK AT MOST 1048576: true; the input reads as it did. -/
def nameBackUptoRow : OpenClaim := { program := "ytobjfdebcflocaadoor", sum := "0892713b58ca94949dfbfebdd96323e89bf37433f61e767fa31a0f6d00daca66", func := "copyhold/copyholdlaw06.NameBack", spec := "nameBack", inPlace := ["internal/bytealg.CountString", "internal/bytealg.IndexByteString", "internal/bytealg.IndexString", "internal/bytealg.abigen_runtime_cmpstring", "slices.overlaps[copyhold/api.Entry]"], unfollowed := true, recurses := true, named := ["unicode/utf8.first", "unicode/utf8.acceptRanges", "internal/bytealg.MaxLen"], apart := false, laid := [("unicode/utf8.acceptRanges", laid_unicode_utf8_acceptRanges), ("unicode/utf8.first", laid_unicode_utf8_first)], narrowed := true }
def NameBackUptoSaid : Prop := nameBackUptoRow.holds Tryd.pinned (OpenSpec.upto nameBackSpec)

/-- 'copyholdlaw06.NameOthers', WHERE WHAT IT READS IS OF BULK AT MOST 1048576: true; the input reads as it did. -/
def nameOthersUptoRow : OpenClaim := { program := "ytobjfdebcflocaadoor", sum := "0892713b58ca94949dfbfebdd96323e89bf37433f61e767fa31a0f6d00daca66", func := "copyhold/copyholdlaw06.NameOthers", spec := "nameOthers", inPlace := ["internal/bytealg.CountString", "internal/bytealg.IndexByteString", "internal/bytealg.IndexString", "internal/bytealg.abigen_runtime_cmpstring", "slices.overlaps[copyhold/api.Entry]"], unfollowed := true, recurses := true, named := ["unicode/utf8.first", "unicode/utf8.acceptRanges", "internal/bytealg.MaxLen"], apart := false, laid := [("unicode/utf8.acceptRanges", laid_unicode_utf8_acceptRanges), ("unicode/utf8.first", laid_unicode_utf8_first)], narrowed := true }
def NameOthersUptoSaid : Prop := nameOthersUptoRow.holds Tryd.pinned (OpenSpec.upto nameOthersSpec)

/-- 'copyholdlaw06.NameBad', WHERE WHAT IT READS IS OF BULK AT MOST 1048576: true; the input reads as it did. -/
def nameBadUptoRow : OpenClaim := { program := "ytobjfdebcflocaadoor", sum := "0892713b58ca94949dfbfebdd96323e89bf37433f61e767fa31a0f6d00daca66", func := "copyhold/copyholdlaw06.NameBad", spec := "nameBad", inPlace := ["internal/bytealg.CountString", "internal/bytealg.IndexByteString", "internal/bytealg.IndexString", "internal/bytealg.abigen_runtime_cmpstring", "slices.overlaps[copyhold/api.Entry]"], unfollowed := true, recurses := true, named := ["unicode/utf8.first", "unicode/utf8.acceptRanges", "internal/bytealg.MaxLen"], apart := false, laid := [("unicode/utf8.acceptRanges", laid_unicode_utf8_acceptRanges), ("unicode/utf8.first", laid_unicode_utf8_first)], narrowed := true }
def NameBadUptoSaid : Prop := nameBadUptoRow.holds Tryd.pinned (OpenSpec.upto nameBadSpec)

/-- 'copyholdlaw06.NameOrder', WHERE WHAT IT READS IS OF BULK AT MOST 1048576: true; the input reads as it did. -/
def nameOrderUptoRow : OpenClaim := { program := "ytobjfdebcflocaadoor", sum := "0892713b58ca94949dfbfebdd96323e89bf37433f61e767fa31a0f6d00daca66", func := "copyhold/copyholdlaw06.NameOrder", spec := "nameOrder", inPlace := ["internal/bytealg.CountString", "internal/bytealg.IndexByteString", "internal/bytealg.IndexString", "internal/bytealg.abigen_runtime_cmpstring", "slices.overlaps[copyhold/api.Entry]"], unfollowed := true, recurses := true, named := ["unicode/utf8.first", "unicode/utf8.acceptRanges", "internal/bytealg.MaxLen"], apart := false, laid := [("unicode/utf8.acceptRanges", laid_unicode_utf8_acceptRanges), ("unicode/utf8.first", laid_unicode_utf8_first)], narrowed := true }
def NameOrderUptoSaid : Prop := nameOrderUptoRow.holds Tryd.pinned (OpenSpec.upto nameOrderSpec)

end Rows
end Go.Proofs.YtobjfdebcflocaaDoor
