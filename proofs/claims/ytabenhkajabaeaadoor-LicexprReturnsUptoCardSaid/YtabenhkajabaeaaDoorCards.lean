/-
  DERIVED. GIVEN WITH THE SEED: THE CARDS: each row of YtabenhkajabaeaaDoorRows.lean that lists a variable, with what it lists TIED to the program's text (the seventh form; the later family's looks); each row that meets fmt, with fmt's text TOLD by the authors' own Lean function (tested against real Go, not proved from fmt's source: count such statements apart). THE CARD IS WHAT COUNTS. Prove the row's statement (the work); the ties are given (YtabenhkajabaeaaDoorTie.lean); close each card by the builder's one call (the guide's Derived/Test/ToyasCard.lean, 'card_holds'). Laid BY PROGRAM, IN A SANDBOX (cutbox-door.mjs). By AI agents, Wed Nov 11 2026. No macro, syntax, notation, axiom, sorry.
-/
import Derived.Test.YtabenhkajabaeaaDoorRows
import GoSem.ClaimSeven
namespace Go.Proofs.YtabenhkajabaeaaDoor
namespace Rows

/-- THE TIED CARD OF 'licitlaw32.LicexprParses'. -/
def licexprParsesCard : Claim7 := { stood := { row := licexprParsesRow, standIns := [], harness := (true, "d3d86a4b3d57a7be930de22ce3f193d1bfc54ca69d4c5bdc066d743c7de651d5"), looks := false }, kinds := [], alts := [], laidByText := true, laidKinds := [.data, .pinned], laidTests := true, laidLooks := .later }
def LicexprParsesCardSaid : Prop := Claim7.holds Tryd.pinned (.plain (OpenSpec.ofChange licexprParsesSpec)) licexprParsesCard

/-- THE TIED CARD OF 'licitlaw32.LicexprForms'. -/
def licexprFormsCard : Claim7 := { stood := { row := licexprFormsRow, standIns := [], harness := (true, "d3d86a4b3d57a7be930de22ce3f193d1bfc54ca69d4c5bdc066d743c7de651d5"), looks := false }, kinds := [], alts := [], laidByText := true, laidKinds := [.data, .pinned], laidTests := true, laidLooks := .later }
def LicexprFormsCardSaid : Prop := Claim7.holds Tryd.pinned (.plain (OpenSpec.ofChange licexprFormsSpec)) licexprFormsCard

/-- THE TIED CARD OF 'licitlaw32.LicexprReturns'. -/
def licexprReturnsCard : Claim7 := { stood := { row := licexprReturnsRow, standIns := [], harness := (true, "d3d86a4b3d57a7be930de22ce3f193d1bfc54ca69d4c5bdc066d743c7de651d5"), looks := false }, kinds := [], alts := [], laidByText := true, laidKinds := [.data, .pinned], laidTests := true, laidLooks := .later }
def LicexprReturnsCardSaid : Prop := Claim7.holds Tryd.pinned (.plain (OpenSpec.ofChange licexprReturnsSpec)) licexprReturnsCard

/-- THE TIED CARD OF 'licitlaw32.LicexprBinds'. -/
def licexprBindsCard : Claim7 := { stood := { row := licexprBindsRow, standIns := [], harness := (true, "d3d86a4b3d57a7be930de22ce3f193d1bfc54ca69d4c5bdc066d743c7de651d5"), looks := false }, kinds := [], alts := [], laidByText := true, laidKinds := [.data, .pinned], laidTests := true, laidLooks := .later }
def LicexprBindsCardSaid : Prop := Claim7.holds Tryd.pinned (.plain (OpenSpec.ofChange licexprBindsSpec)) licexprBindsCard

/-- THE TIED CARD OF 'licitlaw32.LicexprNests'. -/
def licexprNestsCard : Claim7 := { stood := { row := licexprNestsRow, standIns := [], harness := (true, "d3d86a4b3d57a7be930de22ce3f193d1bfc54ca69d4c5bdc066d743c7de651d5"), looks := false }, kinds := [], alts := [], laidByText := true, laidKinds := [.data, .pinned], laidTests := true, laidLooks := .later }
def LicexprNestsCardSaid : Prop := Claim7.holds Tryd.pinned (.plain (OpenSpec.ofChange licexprNestsSpec)) licexprNestsCard

/-- THE TIED CARD OF 'licitlaw32.LicexprBlanks'. -/
def licexprBlanksCard : Claim7 := { stood := { row := licexprBlanksRow, standIns := [], harness := (true, "d3d86a4b3d57a7be930de22ce3f193d1bfc54ca69d4c5bdc066d743c7de651d5"), looks := false }, kinds := [], alts := [], laidByText := true, laidKinds := [.data, .pinned], laidTests := true, laidLooks := .later }
def LicexprBlanksCardSaid : Prop := Claim7.holds Tryd.pinned (.plain (OpenSpec.ofChange licexprBlanksSpec)) licexprBlanksCard

/-- THE SECOND FORM's CARD OF 'licitlaw32.LicexprParses'. -/
def licexprParsesUptoCard : Claim7 := { stood := { row := licexprParsesUptoRow, standIns := [], harness := (true, "d3d86a4b3d57a7be930de22ce3f193d1bfc54ca69d4c5bdc066d743c7de651d5"), looks := false }, kinds := [], alts := [], laidByText := true, laidKinds := [.data, .pinned], laidTests := true, laidLooks := .later }
def LicexprParsesUptoCardSaid : Prop := Claim7.holds Tryd.pinned (.plain (OpenSpec.upto licexprParsesSpec)) licexprParsesUptoCard

/-- THE SECOND FORM's CARD OF 'licitlaw32.LicexprForms'. -/
def licexprFormsUptoCard : Claim7 := { stood := { row := licexprFormsUptoRow, standIns := [], harness := (true, "d3d86a4b3d57a7be930de22ce3f193d1bfc54ca69d4c5bdc066d743c7de651d5"), looks := false }, kinds := [], alts := [], laidByText := true, laidKinds := [.data, .pinned], laidTests := true, laidLooks := .later }
def LicexprFormsUptoCardSaid : Prop := Claim7.holds Tryd.pinned (.plain (OpenSpec.upto licexprFormsSpec)) licexprFormsUptoCard

/-- THE SECOND FORM's CARD OF 'licitlaw32.LicexprReturns'. -/
def licexprReturnsUptoCard : Claim7 := { stood := { row := licexprReturnsUptoRow, standIns := [], harness := (true, "d3d86a4b3d57a7be930de22ce3f193d1bfc54ca69d4c5bdc066d743c7de651d5"), looks := false }, kinds := [], alts := [], laidByText := true, laidKinds := [.data, .pinned], laidTests := true, laidLooks := .later }
def LicexprReturnsUptoCardSaid : Prop := Claim7.holds Tryd.pinned (.plain (OpenSpec.upto licexprReturnsSpec)) licexprReturnsUptoCard

/-- THE SECOND FORM's CARD OF 'licitlaw32.LicexprBinds'. -/
def licexprBindsUptoCard : Claim7 := { stood := { row := licexprBindsUptoRow, standIns := [], harness := (true, "d3d86a4b3d57a7be930de22ce3f193d1bfc54ca69d4c5bdc066d743c7de651d5"), looks := false }, kinds := [], alts := [], laidByText := true, laidKinds := [.data, .pinned], laidTests := true, laidLooks := .later }
def LicexprBindsUptoCardSaid : Prop := Claim7.holds Tryd.pinned (.plain (OpenSpec.upto licexprBindsSpec)) licexprBindsUptoCard

/-- THE SECOND FORM's CARD OF 'licitlaw32.LicexprNests'. -/
def licexprNestsUptoCard : Claim7 := { stood := { row := licexprNestsUptoRow, standIns := [], harness := (true, "d3d86a4b3d57a7be930de22ce3f193d1bfc54ca69d4c5bdc066d743c7de651d5"), looks := false }, kinds := [], alts := [], laidByText := true, laidKinds := [.data, .pinned], laidTests := true, laidLooks := .later }
def LicexprNestsUptoCardSaid : Prop := Claim7.holds Tryd.pinned (.plain (OpenSpec.upto licexprNestsSpec)) licexprNestsUptoCard

/-- THE SECOND FORM's CARD OF 'licitlaw32.LicexprBlanks'. -/
def licexprBlanksUptoCard : Claim7 := { stood := { row := licexprBlanksUptoRow, standIns := [], harness := (true, "d3d86a4b3d57a7be930de22ce3f193d1bfc54ca69d4c5bdc066d743c7de651d5"), looks := false }, kinds := [], alts := [], laidByText := true, laidKinds := [.data, .pinned], laidTests := true, laidLooks := .later }
def LicexprBlanksUptoCardSaid : Prop := Claim7.holds Tryd.pinned (.plain (OpenSpec.upto licexprBlanksSpec)) licexprBlanksUptoCard
end Rows
end Go.Proofs.YtabenhkajabaeaaDoor
