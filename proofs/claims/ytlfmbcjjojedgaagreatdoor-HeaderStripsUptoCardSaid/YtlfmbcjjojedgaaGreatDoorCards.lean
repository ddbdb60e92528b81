/-
  DERIVED. GIVEN WITH THE SEED: THE CARDS: each row of YtlfmbcjjojedgaaGreatDoorRows.lean that lists a variable, with what it lists TIED to the program's text (the seventh form; the later family's looks); each row that meets fmt, with fmt's text TOLD by the authors' own Lean function (tested against real Go, not proved from fmt's source: count such statements apart). THE CARD IS WHAT COUNTS. Prove the row's statement (the work); the ties are given (YtlfmbcjjojedgaaGreatDoorTie.lean); close each card by the builder's one call (the guide's Derived/Test/ToyasCard.lean, 'card_holds'). Laid BY PROGRAM, IN A SANDBOX (cutbox-door.mjs). By AI agents, Wed Nov 11 2026. No macro, syntax, notation, axiom, sorry.
-/
import Derived.Test.YtlfmbcjjojedgaaGreatDoorRows
import GoSem.ClaimSeven
namespace Go.Proofs.YtlfmbcjjojedgaaGreatDoor
namespace Rows

/-- THE TIED CARD OF 'licitlaw36.HeaderScans'. -/
def headerScansCard : Claim7 := { stood := { row := headerScansRow, standIns := [], harness := (true, "39a60f0df45e452af1ed8d41fbe1cc4c7584ea1459831568c0d060a011296a88"), looks := false }, kinds := [], alts := [], laidByText := true, laidKinds := [.data, .pinned], laidTests := true, laidLooks := .later }
def HeaderScansCardSaid : Prop := Claim7.holds Tryz.pinned (.plain (OpenSpec.ofChange headerScansSpec)) headerScansCard

/-- THE TIED CARD OF 'licitlaw36.HeaderCollects'. -/
def headerCollectsCard : Claim7 := { stood := { row := headerCollectsRow, standIns := [], harness := (true, "39a60f0df45e452af1ed8d41fbe1cc4c7584ea1459831568c0d060a011296a88"), looks := false }, kinds := [], alts := [], laidByText := true, laidKinds := [.data, .pinned], laidTests := true, laidLooks := .later }
def HeaderCollectsCardSaid : Prop := Claim7.holds Tryz.pinned (.plain (OpenSpec.ofChange headerCollectsSpec)) headerCollectsCard

/-- THE TIED CARD OF 'licitlaw36.HeaderWrites'. -/
def headerWritesCard : Claim7 := { stood := { row := headerWritesRow, standIns := [], harness := (true, "39a60f0df45e452af1ed8d41fbe1cc4c7584ea1459831568c0d060a011296a88"), looks := false }, kinds := [], alts := [], laidByText := true, laidKinds := [.data, .pinned], laidTests := true, laidLooks := .later }
def HeaderWritesCardSaid : Prop := Claim7.holds Tryz.pinned (.plain (OpenSpec.ofChange headerWritesSpec)) headerWritesCard

/-- THE TIED CARD OF 'licitlaw36.HeaderPuts'. -/
def headerPutsCard : Claim7 := { stood := { row := headerPutsRow, standIns := [], harness := (true, "39a60f0df45e452af1ed8d41fbe1cc4c7584ea1459831568c0d060a011296a88"), looks := false }, kinds := [], alts := [], laidByText := true, laidKinds := [.data, .pinned], laidTests := true, laidLooks := .later }
def HeaderPutsCardSaid : Prop := Claim7.holds Tryz.pinned (.plain (OpenSpec.ofChange headerPutsSpec)) headerPutsCard

/-- THE TIED CARD OF 'licitlaw36.HeaderDeclares'. -/
def headerDeclaresCard : Claim7 := { stood := { row := headerDeclaresRow, standIns := [], harness := (true, "39a60f0df45e452af1ed8d41fbe1cc4c7584ea1459831568c0d060a011296a88"), looks := false }, kinds := [], alts := [], laidByText := true, laidKinds := [.data, .pinned], laidTests := true, laidLooks := .later }
def HeaderDeclaresCardSaid : Prop := Claim7.holds Tryz.pinned (.plain (OpenSpec.ofChange headerDeclaresSpec)) headerDeclaresCard

/-- THE TIED CARD OF 'licitlaw36.HeaderHolders'. -/
def headerHoldersCard : Claim7 := { stood := { row := headerHoldersRow, standIns := [], harness := (true, "39a60f0df45e452af1ed8d41fbe1cc4c7584ea1459831568c0d060a011296a88"), looks := false }, kinds := [], alts := [], laidByText := true, laidKinds := [.data, .pinned], laidTests := true, laidLooks := .later }
def HeaderHoldersCardSaid : Prop := Claim7.holds Tryz.pinned (.plain (OpenSpec.ofChange headerHoldersSpec)) headerHoldersCard

/-- THE TIED CARD OF 'licitlaw36.HeaderLines'. -/
def headerLinesCard : Claim7 := { stood := { row := headerLinesRow, standIns := [], harness := (true, "39a60f0df45e452af1ed8d41fbe1cc4c7584ea1459831568c0d060a011296a88"), looks := false }, kinds := [], alts := [], laidByText := true, laidKinds := [.data, .pinned], laidTests := true, laidLooks := .later }
def HeaderLinesCardSaid : Prop := Claim7.holds Tryz.pinned (.plain (OpenSpec.ofChange headerLinesSpec)) headerLinesCard

/-- THE TIED CARD OF 'licitlaw36.HeaderStrips'. -/
def headerStripsCard : Claim7 := { stood := { row := headerStripsRow, standIns := [], harness := (true, "39a60f0df45e452af1ed8d41fbe1cc4c7584ea1459831568c0d060a011296a88"), looks := false }, kinds := [], alts := [], laidByText := true, laidKinds := [.data, .pinned], laidTests := true, laidLooks := .later }
def HeaderStripsCardSaid : Prop := Claim7.holds Tryz.pinned (.plain (OpenSpec.ofChange headerStripsSpec)) headerStripsCard

/-- THE SECOND FORM's CARD OF 'licitlaw36.HeaderScans'. -/
def headerScansUptoCard : Claim7 := { stood := { row := headerScansUptoRow, standIns := [], harness := (true, "39a60f0df45e452af1ed8d41fbe1cc4c7584ea1459831568c0d060a011296a88"), looks := false }, kinds := [], alts := [], laidByText := true, laidKinds := [.data, .pinned], laidTests := true, laidLooks := .later }
def HeaderScansUptoCardSaid : Prop := Claim7.holds Tryz.pinned (.plain (OpenSpec.upto headerScansSpec)) headerScansUptoCard

/-- THE SECOND FORM's CARD OF 'licitlaw36.HeaderCollects'. -/
def headerCollectsUptoCard : Claim7 := { stood := { row := headerCollectsUptoRow, standIns := [], harness := (true, "39a60f0df45e452af1ed8d41fbe1cc4c7584ea1459831568c0d060a011296a88"), looks := false }, kinds := [], alts := [], laidByText := true, laidKinds := [.data, .pinned], laidTests := true, laidLooks := .later }
def HeaderCollectsUptoCardSaid : Prop := Claim7.holds Tryz.pinned (.plain (OpenSpec.upto headerCollectsSpec)) headerCollectsUptoCard

/-- THE SECOND FORM's CARD OF 'licitlaw36.HeaderWrites'. -/
def headerWritesUptoCard : Claim7 := { stood := { row := headerWritesUptoRow, standIns := [], harness := (true, "39a60f0df45e452af1ed8d41fbe1cc4c7584ea1459831568c0d060a011296a88"), looks := false }, kinds := [], alts := [], laidByText := true, laidKinds := [.data, .pinned], laidTests := true, laidLooks := .later }
def HeaderWritesUptoCardSaid : Prop := Claim7.holds Tryz.pinned (.plain (OpenSpec.upto headerWritesSpec)) headerWritesUptoCard

/-- THE SECOND FORM's CARD OF 'licitlaw36.HeaderPuts'. -/
def headerPutsUptoCard : Claim7 := { stood := { row := headerPutsUptoRow, standIns := [], harness := (true, "39a60f0df45e452af1ed8d41fbe1cc4c7584ea1459831568c0d060a011296a88"), looks := false }, kinds := [], alts := [], laidByText := true, laidKinds := [.data, .pinned], laidTests := true, laidLooks := .later }
def HeaderPutsUptoCardSaid : Prop := Claim7.holds Tryz.pinned (.plain (OpenSpec.upto headerPutsSpec)) headerPutsUptoCard

/-- THE SECOND FORM's CARD OF 'licitlaw36.HeaderDeclares'. -/
def headerDeclaresUptoCard : Claim7 := { stood := { row := headerDeclaresUptoRow, standIns := [], harness := (true, "39a60f0df45e452af1ed8d41fbe1cc4c7584ea1459831568c0d060a011296a88"), looks := false }, kinds := [], alts := [], laidByText := true, laidKinds := [.data, .pinned], laidTests := true, laidLooks := .later }
def HeaderDeclaresUptoCardSaid : Prop := Claim7.holds Tryz.pinned (.plain (OpenSpec.upto headerDeclaresSpec)) headerDeclaresUptoCard

/-- THE SECOND FORM's CARD OF 'licitlaw36.HeaderHolders'. -/
def headerHoldersUptoCard : Claim7 := { stood := { row := headerHoldersUptoRow, standIns := [], harness := (true, "39a60f0df45e452af1ed8d41fbe1cc4c7584ea1459831568c0d060a011296a88"), looks := false }, kinds := [], alts := [], laidByText := true, laidKinds := [.data, .pinned], laidTests := true, laidLooks := .later }
def HeaderHoldersUptoCardSaid : Prop := Claim7.holds Tryz.pinned (.plain (OpenSpec.upto headerHoldersSpec)) headerHoldersUptoCard

/-- THE SECOND FORM's CARD OF 'licitlaw36.HeaderLines'. -/
def headerLinesUptoCard : Claim7 := { stood := { row := headerLinesUptoRow, standIns := [], harness := (true, "39a60f0df45e452af1ed8d41fbe1cc4c7584ea1459831568c0d060a011296a88"), looks := false }, kinds := [], alts := [], laidByText := true, laidKinds := [.data, .pinned], laidTests := true, laidLooks := .later }
def HeaderLinesUptoCardSaid : Prop := Claim7.holds Tryz.pinned (.plain (OpenSpec.upto headerLinesSpec)) headerLinesUptoCard

/-- THE SECOND FORM's CARD OF 'licitlaw36.HeaderStrips'. -/
def headerStripsUptoCard : Claim7 := { stood := { row := headerStripsUptoRow, standIns := [], harness := (true, "39a60f0df45e452af1ed8d41fbe1cc4c7584ea1459831568c0d060a011296a88"), looks := false }, kinds := [], alts := [], laidByText := true, laidKinds := [.data, .pinned], laidTests := true, laidLooks := .later }
def HeaderStripsUptoCardSaid : Prop := Claim7.holds Tryz.pinned (.plain (OpenSpec.upto headerStripsSpec)) headerStripsUptoCard
end Rows
end Go.Proofs.YtlfmbcjjojedgaaGreatDoor
