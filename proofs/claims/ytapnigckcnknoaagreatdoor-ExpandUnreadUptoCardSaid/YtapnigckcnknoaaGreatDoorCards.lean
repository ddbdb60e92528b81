/-
  DERIVED. GIVEN WITH THE SEED: THE CARDS: each row of YtapnigckcnknoaaGreatDoorRows.lean that lists a variable, with what it lists TIED to the program's text (the seventh form; the later family's looks); each row that meets fmt, with fmt's text TOLD by the authors' own Lean function (tested against real Go, not proved from fmt's source: count such statements apart). THE CARD IS WHAT COUNTS. Prove the row's statement (the work); the ties are given (YtapnigckcnknoaaGreatDoorTie.lean); close each card by the builder's one call (the guide's Derived/Test/ToyasCard.lean, 'card_holds'). Laid BY PROGRAM, IN A SANDBOX (cutbox-door.mjs). By AI agents, Wed Nov 11 2026. No macro, syntax, notation, axiom, sorry.
-/
import Derived.Test.YtapnigckcnknoaaGreatDoorRows
import GoSem.ClaimSeven
namespace Go.Proofs.YtapnigckcnknoaaGreatDoor
namespace Rows

/-- THE TIED CARD OF 'licitlaw07.ExpandBodies'. -/
def expandBodiesCard : Claim7 := { stood := { row := expandBodiesRow, standIns := [], harness := (true, "4843829b9966f3295bd9382934a0a20fb8c2468349e37cf9817bdf65f08a8e44"), looks := false }, kinds := [], alts := [], laidByText := true, laidKinds := [.data, .pinned], laidTests := true, laidLooks := .later }
def ExpandBodiesCardSaid : Prop := Claim7.holds Tryz.pinned (.plain (OpenSpec.ofChange expandBodiesSpec)) expandBodiesCard

/-- THE TIED CARD OF 'licitlaw07.ExpandLines'. -/
def expandLinesCard : Claim7 := { stood := { row := expandLinesRow, standIns := [], harness := (true, "4843829b9966f3295bd9382934a0a20fb8c2468349e37cf9817bdf65f08a8e44"), looks := false }, kinds := [], alts := [], laidByText := true, laidKinds := [.data, .pinned], laidTests := true, laidLooks := .later }
def ExpandLinesCardSaid : Prop := Claim7.holds Tryz.pinned (.plain (OpenSpec.ofChange expandLinesSpec)) expandLinesCard

/-- THE TIED CARD OF 'licitlaw07.ExpandSimple'. -/
def expandSimpleCard : Claim7 := { stood := { row := expandSimpleRow, standIns := [], harness := (true, "4843829b9966f3295bd9382934a0a20fb8c2468349e37cf9817bdf65f08a8e44"), looks := false }, kinds := [], alts := [], laidByText := true, laidKinds := [.data, .pinned], laidTests := true, laidLooks := .later }
def ExpandSimpleCardSaid : Prop := Claim7.holds Tryz.pinned (.plain (OpenSpec.ofChange expandSimpleSpec)) expandSimpleCard

/-- THE TIED CARD OF 'licitlaw07.ExpandJoins'. -/
def expandJoinsCard : Claim7 := { stood := { row := expandJoinsRow, standIns := [], harness := (true, "4843829b9966f3295bd9382934a0a20fb8c2468349e37cf9817bdf65f08a8e44"), looks := false }, kinds := [], alts := [], laidByText := true, laidKinds := [.data, .pinned], laidTests := true, laidLooks := .later }
def ExpandJoinsCardSaid : Prop := Claim7.holds Tryz.pinned (.plain (OpenSpec.ofChange expandJoinsSpec)) expandJoinsCard

/-- THE TIED CARD OF 'licitlaw07.ExpandPlain'. -/
def expandPlainCard : Claim7 := { stood := { row := expandPlainRow, standIns := [], harness := (true, "4843829b9966f3295bd9382934a0a20fb8c2468349e37cf9817bdf65f08a8e44"), looks := false }, kinds := [], alts := [], laidByText := true, laidKinds := [.data, .pinned], laidTests := true, laidLooks := .later }
def ExpandPlainCardSaid : Prop := Claim7.holds Tryz.pinned (.plain (OpenSpec.ofChange expandPlainSpec)) expandPlainCard

/-- THE TIED CARD OF 'licitlaw07.ExpandUnread'. -/
def expandUnreadCard : Claim7 := { stood := { row := expandUnreadRow, standIns := [], harness := (true, "4843829b9966f3295bd9382934a0a20fb8c2468349e37cf9817bdf65f08a8e44"), looks := false }, kinds := [], alts := [], laidByText := true, laidKinds := [.data, .pinned], laidTests := true, laidLooks := .later }
def ExpandUnreadCardSaid : Prop := Claim7.holds Tryz.pinned (.plain (OpenSpec.ofChange expandUnreadSpec)) expandUnreadCard

/-- THE SECOND FORM's CARD OF 'licitlaw07.ExpandBodies'. -/
def expandBodiesUptoCard : Claim7 := { stood := { row := expandBodiesUptoRow, standIns := [], harness := (true, "4843829b9966f3295bd9382934a0a20fb8c2468349e37cf9817bdf65f08a8e44"), looks := false }, kinds := [], alts := [], laidByText := true, laidKinds := [.data, .pinned], laidTests := true, laidLooks := .later }
def ExpandBodiesUptoCardSaid : Prop := Claim7.holds Tryz.pinned (.plain (OpenSpec.upto expandBodiesSpec)) expandBodiesUptoCard

/-- THE SECOND FORM's CARD OF 'licitlaw07.ExpandLines'. -/
def expandLinesUptoCard : Claim7 := { stood := { row := expandLinesUptoRow, standIns := [], harness := (true, "4843829b9966f3295bd9382934a0a20fb8c2468349e37cf9817bdf65f08a8e44"), looks := false }, kinds := [], alts := [], laidByText := true, laidKinds := [.data, .pinned], laidTests := true, laidLooks := .later }
def ExpandLinesUptoCardSaid : Prop := Claim7.holds Tryz.pinned (.plain (OpenSpec.upto expandLinesSpec)) expandLinesUptoCard

/-- THE SECOND FORM's CARD OF 'licitlaw07.ExpandSimple'. -/
def expandSimpleUptoCard : Claim7 := { stood := { row := expandSimpleUptoRow, standIns := [], harness := (true, "4843829b9966f3295bd9382934a0a20fb8c2468349e37cf9817bdf65f08a8e44"), looks := false }, kinds := [], alts := [], laidByText := true, laidKinds := [.data, .pinned], laidTests := true, laidLooks := .later }
def ExpandSimpleUptoCardSaid : Prop := Claim7.holds Tryz.pinned (.plain (OpenSpec.upto expandSimpleSpec)) expandSimpleUptoCard

/-- THE SECOND FORM's CARD OF 'licitlaw07.ExpandJoins'. -/
def expandJoinsUptoCard : Claim7 := { stood := { row := expandJoinsUptoRow, standIns := [], harness := (true, "4843829b9966f3295bd9382934a0a20fb8c2468349e37cf9817bdf65f08a8e44"), looks := false }, kinds := [], alts := [], laidByText := true, laidKinds := [.data, .pinned], laidTests := true, laidLooks := .later }
def ExpandJoinsUptoCardSaid : Prop := Claim7.holds Tryz.pinned (.plain (OpenSpec.upto expandJoinsSpec)) expandJoinsUptoCard

/-- THE SECOND FORM's CARD OF 'licitlaw07.ExpandPlain'. -/
def expandPlainUptoCard : Claim7 := { stood := { row := expandPlainUptoRow, standIns := [], harness := (true, "4843829b9966f3295bd9382934a0a20fb8c2468349e37cf9817bdf65f08a8e44"), looks := false }, kinds := [], alts := [], laidByText := true, laidKinds := [.data, .pinned], laidTests := true, laidLooks := .later }
def ExpandPlainUptoCardSaid : Prop := Claim7.holds Tryz.pinned (.plain (OpenSpec.upto expandPlainSpec)) expandPlainUptoCard

/-- THE SECOND FORM's CARD OF 'licitlaw07.ExpandUnread'. -/
def expandUnreadUptoCard : Claim7 := { stood := { row := expandUnreadUptoRow, standIns := [], harness := (true, "4843829b9966f3295bd9382934a0a20fb8c2468349e37cf9817bdf65f08a8e44"), looks := false }, kinds := [], alts := [], laidByText := true, laidKinds := [.data, .pinned], laidTests := true, laidLooks := .later }
def ExpandUnreadUptoCardSaid : Prop := Claim7.holds Tryz.pinned (.plain (OpenSpec.upto expandUnreadSpec)) expandUnreadUptoCard
end Rows
end Go.Proofs.YtapnigckcnknoaaGreatDoor
