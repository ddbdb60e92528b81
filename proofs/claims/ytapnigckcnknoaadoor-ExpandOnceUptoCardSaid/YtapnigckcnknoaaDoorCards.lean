/-
  DERIVED. GIVEN WITH THE SEED: THE CARDS: each row of YtapnigckcnknoaaDoorRows.lean that lists a variable, with what it lists TIED to the program's text (the seventh form; the later family's looks); each row that meets fmt, with fmt's text TOLD by the authors' own Lean function (tested against real Go, not proved from fmt's source: count such statements apart). THE CARD IS WHAT COUNTS. Prove the row's statement (the work); the ties are given (YtapnigckcnknoaaDoorTie.lean); close each card by the builder's one call (the guide's Derived/Test/ToyasCard.lean, 'card_holds'). Laid BY PROGRAM, IN A SANDBOX (cutbox-door.mjs). By AI agents, Wed Nov 11 2026. No macro, syntax, notation, axiom, sorry.
-/
import Derived.Test.YtapnigckcnknoaaDoorRows
import GoSem.ClaimSeven
namespace Go.Proofs.YtapnigckcnknoaaDoor
namespace Rows

/-- THE TIED CARD OF 'licitlaw07.ExpandOnce'. -/
def expandOnceCard : Claim7 := { stood := { row := expandOnceRow, standIns := [], harness := (true, "1c28ff1832c16583133e2b0712282bace8e67da0130786b91401aa8c5b3d5775"), looks := false }, kinds := [], alts := [], laidByText := true, laidKinds := [.data, .pinned], laidTests := true, laidLooks := .later }
def ExpandOnceCardSaid : Prop := Claim7.holds Tryd.pinned (.plain (OpenSpec.ofChange expandOnceSpec)) expandOnceCard

/-- THE SECOND FORM's CARD OF 'licitlaw07.ExpandOnce'. -/
def expandOnceUptoCard : Claim7 := { stood := { row := expandOnceUptoRow, standIns := [], harness := (true, "1c28ff1832c16583133e2b0712282bace8e67da0130786b91401aa8c5b3d5775"), looks := false }, kinds := [], alts := [], laidByText := true, laidKinds := [.data, .pinned], laidTests := true, laidLooks := .later }
def ExpandOnceUptoCardSaid : Prop := Claim7.holds Tryd.pinned (.plain (OpenSpec.upto expandOnceSpec)) expandOnceUptoCard
end Rows
end Go.Proofs.YtapnigckcnknoaaDoor
