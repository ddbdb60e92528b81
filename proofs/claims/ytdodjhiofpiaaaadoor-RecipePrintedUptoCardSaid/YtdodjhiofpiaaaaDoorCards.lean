/-
  DERIVED. GIVEN WITH THE SEED: THE CARDS: each row of YtdodjhiofpiaaaaDoorRows.lean that lists a variable, with what it lists TIED to the program's text (the seventh form; the later family's looks); each row that meets fmt, with fmt's text TOLD by the authors' own Lean function (tested against real Go, not proved from fmt's source: count such statements apart). THE CARD IS WHAT COUNTS. Prove the row's statement (the work); the ties are given (YtdodjhiofpiaaaaDoorTie.lean); close each card by the builder's one call (the guide's Derived/Test/ToyasCard.lean, 'card_holds'). Laid BY PROGRAM, IN A SANDBOX (cutbox-door.mjs). By AI agents, Wed Nov 11 2026. No macro, syntax, notation, axiom, sorry.
-/
import Derived.Test.YtdodjhiofpiaaaaDoorRows
import GoSem.ClaimSeven
namespace Go.Proofs.YtdodjhiofpiaaaaDoor
namespace Rows

/-- THE TIED CARD OF 'licitlaw14.RecipeReturns'. -/
def recipeReturnsCard : Claim7 := { stood := { row := recipeReturnsRow, standIns := [], harness := (true, "4b43027727b5b3abe5d1c94aafea13d20d5fbef5af4543c8c357c61d065f80d3"), looks := false }, kinds := [], alts := [], laidByText := true, laidKinds := [.data, .pinned], laidTests := true, laidLooks := .later }
def RecipeReturnsCardSaid : Prop := Claim7.holds Tryd.pinned (.plain (OpenSpec.ofChange recipeReturnsSpec)) recipeReturnsCard

/-- THE TIED CARD OF 'licitlaw14.RecipeJoins'. -/
def recipeJoinsCard : Claim7 := { stood := { row := recipeJoinsRow, standIns := [], harness := (true, "4b43027727b5b3abe5d1c94aafea13d20d5fbef5af4543c8c357c61d065f80d3"), looks := false }, kinds := [], alts := [], laidByText := true, laidKinds := [.data, .pinned], laidTests := true, laidLooks := .later }
def RecipeJoinsCardSaid : Prop := Claim7.holds Tryd.pinned (.plain (OpenSpec.ofChange recipeJoinsSpec)) recipeJoinsCard

/-- THE TIED CARD OF 'licitlaw14.RecipePrinted'. -/
def recipePrintedCard : Claim7 := { stood := { row := recipePrintedRow, standIns := [], harness := (true, "4b43027727b5b3abe5d1c94aafea13d20d5fbef5af4543c8c357c61d065f80d3"), looks := false }, kinds := [], alts := [], laidByText := true, laidKinds := [.data, .pinned], laidTests := true, laidLooks := .later }
def RecipePrintedCardSaid : Prop := Claim7.holds Tryd.pinned (.plain (OpenSpec.ofChange recipePrintedSpec)) recipePrintedCard

/-- THE SECOND FORM's CARD OF 'licitlaw14.RecipeReturns'. -/
def recipeReturnsUptoCard : Claim7 := { stood := { row := recipeReturnsUptoRow, standIns := [], harness := (true, "4b43027727b5b3abe5d1c94aafea13d20d5fbef5af4543c8c357c61d065f80d3"), looks := false }, kinds := [], alts := [], laidByText := true, laidKinds := [.data, .pinned], laidTests := true, laidLooks := .later }
def RecipeReturnsUptoCardSaid : Prop := Claim7.holds Tryd.pinned (.plain (OpenSpec.upto recipeReturnsSpec)) recipeReturnsUptoCard

/-- THE SECOND FORM's CARD OF 'licitlaw14.RecipeJoins'. -/
def recipeJoinsUptoCard : Claim7 := { stood := { row := recipeJoinsUptoRow, standIns := [], harness := (true, "4b43027727b5b3abe5d1c94aafea13d20d5fbef5af4543c8c357c61d065f80d3"), looks := false }, kinds := [], alts := [], laidByText := true, laidKinds := [.data, .pinned], laidTests := true, laidLooks := .later }
def RecipeJoinsUptoCardSaid : Prop := Claim7.holds Tryd.pinned (.plain (OpenSpec.upto recipeJoinsSpec)) recipeJoinsUptoCard

/-- THE SECOND FORM's CARD OF 'licitlaw14.RecipePrinted'. -/
def recipePrintedUptoCard : Claim7 := { stood := { row := recipePrintedUptoRow, standIns := [], harness := (true, "4b43027727b5b3abe5d1c94aafea13d20d5fbef5af4543c8c357c61d065f80d3"), looks := false }, kinds := [], alts := [], laidByText := true, laidKinds := [.data, .pinned], laidTests := true, laidLooks := .later }
def RecipePrintedUptoCardSaid : Prop := Claim7.holds Tryd.pinned (.plain (OpenSpec.upto recipePrintedSpec)) recipePrintedUptoCard
end Rows
end Go.Proofs.YtdodjhiofpiaaaaDoor
