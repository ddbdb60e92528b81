/-
  DERIVED. GIVEN WITH THE SEED: THE CARDS: each row of YtdodjhiofpiaaaaGreatDoorRows.lean that lists a variable, with what it lists TIED to the program's text (the seventh form; the later family's looks); each row that meets fmt, with fmt's text TOLD by the authors' own Lean function (tested against real Go, not proved from fmt's source: count such statements apart). THE CARD IS WHAT COUNTS. Prove the row's statement (the work); the ties are given (YtdodjhiofpiaaaaGreatDoorTie.lean); close each card by the builder's one call (the guide's Derived/Test/ToyasCard.lean, 'card_holds'). Laid BY PROGRAM, IN A SANDBOX (cutbox-door.mjs). By AI agents, Wed Nov 11 2026. No macro, syntax, notation, axiom, sorry.
-/
import Derived.Test.YtdodjhiofpiaaaaGreatDoorRows
import GoSem.ClaimSeven
namespace Go.Proofs.YtdodjhiofpiaaaaGreatDoor
namespace Rows

/-- THE TIED CARD OF 'licitlaw14.RecipeParses'. -/
def recipeParsesCard : Claim7 := { stood := { row := recipeParsesRow, standIns := [], harness := (true, "28dcddd828bbf4223ef2770860eb12b3825bb446de902efc8a9882091f885280"), looks := false }, kinds := [], alts := [], laidByText := true, laidKinds := [.data, .pinned], laidTests := true, laidLooks := .later }
def RecipeParsesCardSaid : Prop := Claim7.holds Tryz.pinned (.plain (OpenSpec.ofChange recipeParsesSpec)) recipeParsesCard

/-- THE TIED CARD OF 'licitlaw14.RecipeChecks'. -/
def recipeChecksCard : Claim7 := { stood := { row := recipeChecksRow, standIns := [], harness := (true, "28dcddd828bbf4223ef2770860eb12b3825bb446de902efc8a9882091f885280"), looks := false }, kinds := [], alts := [], laidByText := true, laidKinds := [.data, .pinned], laidTests := true, laidLooks := .later }
def RecipeChecksCardSaid : Prop := Claim7.holds Tryz.pinned (.plain (OpenSpec.ofChange recipeChecksSpec)) recipeChecksCard

/-- THE TIED CARD OF 'licitlaw14.RecipePrints'. -/
def recipePrintsCard : Claim7 := { stood := { row := recipePrintsRow, standIns := [], harness := (true, "28dcddd828bbf4223ef2770860eb12b3825bb446de902efc8a9882091f885280"), looks := false }, kinds := [], alts := [], laidByText := true, laidKinds := [.data, .pinned], laidTests := true, laidLooks := .later }
def RecipePrintsCardSaid : Prop := Claim7.holds Tryz.pinned (.plain (OpenSpec.ofChange recipePrintsSpec)) recipePrintsCard

/-- THE TIED CARD OF 'licitlaw14.RecipeWords'. -/
def recipeWordsCard : Claim7 := { stood := { row := recipeWordsRow, standIns := [], harness := (true, "28dcddd828bbf4223ef2770860eb12b3825bb446de902efc8a9882091f885280"), looks := false }, kinds := [], alts := [], laidByText := true, laidKinds := [.data, .pinned], laidTests := true, laidLooks := .later }
def RecipeWordsCardSaid : Prop := Claim7.holds Tryz.pinned (.plain (OpenSpec.ofChange recipeWordsSpec)) recipeWordsCard

/-- THE SECOND FORM's CARD OF 'licitlaw14.RecipeParses'. -/
def recipeParsesUptoCard : Claim7 := { stood := { row := recipeParsesUptoRow, standIns := [], harness := (true, "28dcddd828bbf4223ef2770860eb12b3825bb446de902efc8a9882091f885280"), looks := false }, kinds := [], alts := [], laidByText := true, laidKinds := [.data, .pinned], laidTests := true, laidLooks := .later }
def RecipeParsesUptoCardSaid : Prop := Claim7.holds Tryz.pinned (.plain (OpenSpec.upto recipeParsesSpec)) recipeParsesUptoCard

/-- THE SECOND FORM's CARD OF 'licitlaw14.RecipeChecks'. -/
def recipeChecksUptoCard : Claim7 := { stood := { row := recipeChecksUptoRow, standIns := [], harness := (true, "28dcddd828bbf4223ef2770860eb12b3825bb446de902efc8a9882091f885280"), looks := false }, kinds := [], alts := [], laidByText := true, laidKinds := [.data, .pinned], laidTests := true, laidLooks := .later }
def RecipeChecksUptoCardSaid : Prop := Claim7.holds Tryz.pinned (.plain (OpenSpec.upto recipeChecksSpec)) recipeChecksUptoCard

/-- THE SECOND FORM's CARD OF 'licitlaw14.RecipePrints'. -/
def recipePrintsUptoCard : Claim7 := { stood := { row := recipePrintsUptoRow, standIns := [], harness := (true, "28dcddd828bbf4223ef2770860eb12b3825bb446de902efc8a9882091f885280"), looks := false }, kinds := [], alts := [], laidByText := true, laidKinds := [.data, .pinned], laidTests := true, laidLooks := .later }
def RecipePrintsUptoCardSaid : Prop := Claim7.holds Tryz.pinned (.plain (OpenSpec.upto recipePrintsSpec)) recipePrintsUptoCard

/-- THE SECOND FORM's CARD OF 'licitlaw14.RecipeWords'. -/
def recipeWordsUptoCard : Claim7 := { stood := { row := recipeWordsUptoRow, standIns := [], harness := (true, "28dcddd828bbf4223ef2770860eb12b3825bb446de902efc8a9882091f885280"), looks := false }, kinds := [], alts := [], laidByText := true, laidKinds := [.data, .pinned], laidTests := true, laidLooks := .later }
def RecipeWordsUptoCardSaid : Prop := Claim7.holds Tryz.pinned (.plain (OpenSpec.upto recipeWordsSpec)) recipeWordsUptoCard
end Rows
end Go.Proofs.YtdodjhiofpiaaaaGreatDoor
