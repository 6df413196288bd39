/-
  DERIVED. GIVEN WITH THE SEED: THE CARDS: each row of YtobjfdebcflocaaDoorRows.lean that lists a variable, with what it lists TIED to the program's text (the seventh form; the later family's looks); each row that meets fmt, with fmt's text TOLD by the authors' own Lean function (tested against real Go, not proved from fmt's source: count such statements apart). THE CARD IS WHAT COUNTS. Prove the row's statement (the work); the ties are given (YtobjfdebcflocaaDoorTie.lean); close each card by the builder's one call (the guide's Derived/Test/ToyasCard.lean, 'card_holds'). Laid BY PROGRAM, IN A SANDBOX (cutbox-door.mjs). By AI agents, Wed Nov 11 2026. No macro, syntax, notation, axiom, sorry.
-/
import Derived.Test.YtobjfdebcflocaaDoorRows
import GoSem.ClaimSeven
namespace Go.Proofs.YtobjfdebcflocaaDoor
namespace Rows

/-- THE TIED CARD OF 'copyholdlaw06.NamePaths'. -/
def namePathsCard : Claim7 := { stood := { row := namePathsRow, standIns := [], harness := (true, "d1e12db4efa0891a1f7ba4b4241732a00d7d4f98b8500859651bfd832f4e0819"), looks := false }, kinds := [], alts := [], laidByText := true, laidKinds := [.data, .pinned], laidTests := true, laidLooks := .later }
def NamePathsCardSaid : Prop := Claim7.holds Tryd.pinned (.plain (OpenSpec.ofChange namePathsSpec)) namePathsCard

/-- THE TIED CARD OF 'copyholdlaw06.NameRows'. -/
def nameRowsCard : Claim7 := { stood := { row := nameRowsRow, standIns := [], harness := (true, "d1e12db4efa0891a1f7ba4b4241732a00d7d4f98b8500859651bfd832f4e0819"), looks := false }, kinds := [], alts := [], laidByText := true, laidKinds := [.data, .pinned], laidTests := true, laidLooks := .later }
def NameRowsCardSaid : Prop := Claim7.holds Tryd.pinned (.plain (OpenSpec.ofChange nameRowsSpec)) nameRowsCard

/-- THE TIED CARD OF 'copyholdlaw06.NameTurns'. -/
def nameTurnsCard : Claim7 := { stood := { row := nameTurnsRow, standIns := [], harness := (true, "d1e12db4efa0891a1f7ba4b4241732a00d7d4f98b8500859651bfd832f4e0819"), looks := false }, kinds := [], alts := [], laidByText := true, laidKinds := [.data, .pinned], laidTests := true, laidLooks := .later }
def NameTurnsCardSaid : Prop := Claim7.holds Tryd.pinned (.plain (OpenSpec.ofChange nameTurnsSpec)) nameTurnsCard

/-- THE TIED CARD OF 'copyholdlaw06.NameBack'. -/
def nameBackCard : Claim7 := { stood := { row := nameBackRow, standIns := [], harness := (true, "d1e12db4efa0891a1f7ba4b4241732a00d7d4f98b8500859651bfd832f4e0819"), looks := false }, kinds := [], alts := [], laidByText := true, laidKinds := [.data, .pinned], laidTests := true, laidLooks := .later }
def NameBackCardSaid : Prop := Claim7.holds Tryd.pinned (.plain (OpenSpec.ofChange nameBackSpec)) nameBackCard

/-- THE TIED CARD OF 'copyholdlaw06.NameOthers'. -/
def nameOthersCard : Claim7 := { stood := { row := nameOthersRow, standIns := [], harness := (true, "d1e12db4efa0891a1f7ba4b4241732a00d7d4f98b8500859651bfd832f4e0819"), looks := false }, kinds := [], alts := [], laidByText := true, laidKinds := [.data, .pinned], laidTests := true, laidLooks := .later }
def NameOthersCardSaid : Prop := Claim7.holds Tryd.pinned (.plain (OpenSpec.ofChange nameOthersSpec)) nameOthersCard

/-- THE TIED CARD OF 'copyholdlaw06.NameBad'. -/
def nameBadCard : Claim7 := { stood := { row := nameBadRow, standIns := [], harness := (true, "d1e12db4efa0891a1f7ba4b4241732a00d7d4f98b8500859651bfd832f4e0819"), looks := false }, kinds := [], alts := [], laidByText := true, laidKinds := [.data, .pinned], laidTests := true, laidLooks := .later }
def NameBadCardSaid : Prop := Claim7.holds Tryd.pinned (.plain (OpenSpec.ofChange nameBadSpec)) nameBadCard

/-- THE TIED CARD OF 'copyholdlaw06.NameOrder'. -/
def nameOrderCard : Claim7 := { stood := { row := nameOrderRow, standIns := [], harness := (true, "d1e12db4efa0891a1f7ba4b4241732a00d7d4f98b8500859651bfd832f4e0819"), looks := false }, kinds := [], alts := [], laidByText := true, laidKinds := [.data, .pinned], laidTests := true, laidLooks := .later }
def NameOrderCardSaid : Prop := Claim7.holds Tryd.pinned (.plain (OpenSpec.ofChange nameOrderSpec)) nameOrderCard

/-- THE SECOND FORM's CARD OF 'copyholdlaw06.NamePaths'. -/
def namePathsUptoCard : Claim7 := { stood := { row := namePathsUptoRow, standIns := [], harness := (true, "d1e12db4efa0891a1f7ba4b4241732a00d7d4f98b8500859651bfd832f4e0819"), looks := false }, kinds := [], alts := [], laidByText := true, laidKinds := [.data, .pinned], laidTests := true, laidLooks := .later }
def NamePathsUptoCardSaid : Prop := Claim7.holds Tryd.pinned (.plain (OpenSpec.upto namePathsSpec)) namePathsUptoCard

/-- THE SECOND FORM's CARD OF 'copyholdlaw06.NameRows'. -/
def nameRowsUptoCard : Claim7 := { stood := { row := nameRowsUptoRow, standIns := [], harness := (true, "d1e12db4efa0891a1f7ba4b4241732a00d7d4f98b8500859651bfd832f4e0819"), looks := false }, kinds := [], alts := [], laidByText := true, laidKinds := [.data, .pinned], laidTests := true, laidLooks := .later }
def NameRowsUptoCardSaid : Prop := Claim7.holds Tryd.pinned (.plain (OpenSpec.upto nameRowsSpec)) nameRowsUptoCard

/-- THE SECOND FORM's CARD OF 'copyholdlaw06.NameTurns'. -/
def nameTurnsUptoCard : Claim7 := { stood := { row := nameTurnsUptoRow, standIns := [], harness := (true, "d1e12db4efa0891a1f7ba4b4241732a00d7d4f98b8500859651bfd832f4e0819"), looks := false }, kinds := [], alts := [], laidByText := true, laidKinds := [.data, .pinned], laidTests := true, laidLooks := .later }
def NameTurnsUptoCardSaid : Prop := Claim7.holds Tryd.pinned (.plain (OpenSpec.upto nameTurnsSpec)) nameTurnsUptoCard

/-- THE SECOND FORM's CARD OF 'copyholdlaw06.NameBack'. -/
def nameBackUptoCard : Claim7 := { stood := { row := nameBackUptoRow, standIns := [], harness := (true, "d1e12db4efa0891a1f7ba4b4241732a00d7d4f98b8500859651bfd832f4e0819"), looks := false }, kinds := [], alts := [], laidByText := true, laidKinds := [.data, .pinned], laidTests := true, laidLooks := .later }
def NameBackUptoCardSaid : Prop := Claim7.holds Tryd.pinned (.plain (OpenSpec.upto nameBackSpec)) nameBackUptoCard

/-- THE SECOND FORM's CARD OF 'copyholdlaw06.NameOthers'. -/
def nameOthersUptoCard : Claim7 := { stood := { row := nameOthersUptoRow, standIns := [], harness := (true, "d1e12db4efa0891a1f7ba4b4241732a00d7d4f98b8500859651bfd832f4e0819"), looks := false }, kinds := [], alts := [], laidByText := true, laidKinds := [.data, .pinned], laidTests := true, laidLooks := .later }
def NameOthersUptoCardSaid : Prop := Claim7.holds Tryd.pinned (.plain (OpenSpec.upto nameOthersSpec)) nameOthersUptoCard

/-- THE SECOND FORM's CARD OF 'copyholdlaw06.NameBad'. -/
def nameBadUptoCard : Claim7 := { stood := { row := nameBadUptoRow, standIns := [], harness := (true, "d1e12db4efa0891a1f7ba4b4241732a00d7d4f98b8500859651bfd832f4e0819"), looks := false }, kinds := [], alts := [], laidByText := true, laidKinds := [.data, .pinned], laidTests := true, laidLooks := .later }
def NameBadUptoCardSaid : Prop := Claim7.holds Tryd.pinned (.plain (OpenSpec.upto nameBadSpec)) nameBadUptoCard

/-- THE SECOND FORM's CARD OF 'copyholdlaw06.NameOrder'. -/
def nameOrderUptoCard : Claim7 := { stood := { row := nameOrderUptoRow, standIns := [], harness := (true, "d1e12db4efa0891a1f7ba4b4241732a00d7d4f98b8500859651bfd832f4e0819"), looks := false }, kinds := [], alts := [], laidByText := true, laidKinds := [.data, .pinned], laidTests := true, laidLooks := .later }
def NameOrderUptoCardSaid : Prop := Claim7.holds Tryd.pinned (.plain (OpenSpec.upto nameOrderSpec)) nameOrderUptoCard
end Rows
end Go.Proofs.YtobjfdebcflocaaDoor
