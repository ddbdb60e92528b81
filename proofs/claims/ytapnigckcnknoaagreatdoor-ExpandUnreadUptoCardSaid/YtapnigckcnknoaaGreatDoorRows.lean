/-
  NARROWER THAN 'FOR EVERY INPUT', by the rows' own cells (each row's printed sentence says how): ExpandBodies: laid · ExpandLines: laid · ExpandSimple: laid · ExpandJoins: laid · ExpandPlain: laid · ExpandUnread: laid.
  DERIVED. THE GIVEN ROWS OF THIS SEAT. 6 by the template 'for every input the law returns true; each argument reads behind the call as it read before'; 0 by the template 'total and deterministic' (their statements: YtapnigckcnknoaaGreatDoorTotals.lean).
  GIVEN WITH THE SEED: the statements are not yours to turn. If you find one false, say at which input.
  Laid BY PROGRAM, IN A SANDBOX (cutbox-rows.mjs): the forced cells as the released guide's own fill.sh prints them over the translation b0e2e8541af3565b… (all of the seat's roots in one cut). By AI agents, Wed Nov 11 2026. No macro, syntax, notation, axiom, sorry.
-/
import Derived.Test.YtapnigckcnknoaaGreatDoorChecked
import GoSem.PinnedTables
import GoSem.Claim
import GoSem.ClaimJoined
import GoSem.ClaimMapViews
import Derived.JoinedTies
import Derived.KernelRfl
namespace Go.Proofs.YtapnigckcnknoaaGreatDoor
/- THE CELL 'sum', in the pinned program and in every row, IS THE sha256 OF THE DUMP (.gsa) THAT YtapnigckcnknoaaGreatDoorProg.lean LOADS. Nothing in Lean hashes anything: it is a label: what it is worth is what the hold of that sum in a sandbox is worth. -/
noncomputable def Tryz.pinned : Pinned := { name := "ytapnigckcnknoaagreatdoor", sum := "b0e2e8541af3565b1cb782bf964b2a0e9f717ed3ff406775ad26a31c4d64e445", checked := Tryz.checked }
namespace Rows
def none {H : Type} : Left H := { results := [], args := [] }

/- WHAT THE LISTED PACKAGE-LEVEL VARIABLES READ AS WHEN THE CALL BEGINS. Each datum BY PROGRAM (the guide's laid-datum.mjs) off the statement by which the dump's own 'gosem.cut.vars' lays the variable. In a bare row this is a premise. The card (YtapnigckcnknoaaGreatDoorCards.lean) ties it to the program's text. -/
def laid_unicode_utf8_acceptRanges {H : Type} : DataW H := .agg [.agg [.lit (.int .u8 128), .lit (.int .u8 191)], .agg [.lit (.int .u8 160), .lit (.int .u8 191)], .agg [.lit (.int .u8 128), .lit (.int .u8 159)], .agg [.lit (.int .u8 144), .lit (.int .u8 191)], .agg [.lit (.int .u8 128), .lit (.int .u8 143)], .agg [.lit (.int .u8 0), .lit (.int .u8 0)], .agg [.lit (.int .u8 0), .lit (.int .u8 0)], .agg [.lit (.int .u8 0), .lit (.int .u8 0)], .agg [.lit (.int .u8 0), .lit (.int .u8 0)], .agg [.lit (.int .u8 0), .lit (.int .u8 0)], .agg [.lit (.int .u8 0), .lit (.int .u8 0)], .agg [.lit (.int .u8 0), .lit (.int .u8 0)], .agg [.lit (.int .u8 0), .lit (.int .u8 0)], .agg [.lit (.int .u8 0), .lit (.int .u8 0)], .agg [.lit (.int .u8 0), .lit (.int .u8 0)], .agg [.lit (.int .u8 0), .lit (.int .u8 0)]]
/-- One of Go's own tables, pinned by name: the form's constant. -/
def laid_unicode_utf8_first : DataW Unit := Go.Pinned.utf8First

/-- 'licitlaw07.ExpandBodies': WHATEVER THE INPUT: true; the input reads as it did. -/
def expandBodiesSpec : ChangeSpec := { name := "expandBodies", fn := fun _ => fun
  | [d1, d2] => { results := [.lit (.bool true)], args := [d1, d2] }
  | _ => none }
def expandBodiesRow : OpenClaim := { program := "ytapnigckcnknoaagreatdoor", sum := "b0e2e8541af3565b1cb782bf964b2a0e9f717ed3ff406775ad26a31c4d64e445", func := "licit/licitlaw07.ExpandBodies", spec := "expandBodies", inPlace := ["internal/bytealg.IndexByteString", "internal/abi.NoEscape", "internal/bytealg.MakeNoZero", "internal/bytealg.CountString", "internal/bytealg.IndexString", "internal/bytealg.abigen_runtime_cmpstring"], unfollowed := true, recurses := true, named := ["internal/bytealg.MaxLen", "unicode/utf8.first", "unicode/utf8.acceptRanges"], apart := false, laid := [("unicode/utf8.acceptRanges", laid_unicode_utf8_acceptRanges), ("unicode/utf8.first", laid_unicode_utf8_first)] }
def ExpandBodiesSaid : Prop := expandBodiesRow.holds Tryz.pinned (OpenSpec.ofChange expandBodiesSpec)

/-- ITS FALSE NEIGHBOUR: 'it returns false'. Refute it at one input. -/
def expandBodiesWrong : ChangeSpec := { name := "expandBodies", fn := fun _ => fun
  | [d1, d2] => { results := [.lit (.bool false)], args := [d1, d2] }
  | _ => none }
def ExpandBodiesWrongFalsely : Prop := expandBodiesRow.holds Tryz.pinned (OpenSpec.ofChange expandBodiesWrong)

/-- 'licitlaw07.ExpandLines': WHATEVER THE INPUT: true; the input reads as it did. -/
def expandLinesSpec : ChangeSpec := { name := "expandLines", fn := fun _ => fun
  | [d] => { results := [.lit (.bool true)], args := [d] }
  | _ => none }
def expandLinesRow : OpenClaim := { program := "ytapnigckcnknoaagreatdoor", sum := "b0e2e8541af3565b1cb782bf964b2a0e9f717ed3ff406775ad26a31c4d64e445", func := "licit/licitlaw07.ExpandLines", spec := "expandLines", inPlace := ["internal/bytealg.IndexByteString", "internal/abi.NoEscape", "internal/bytealg.MakeNoZero", "internal/bytealg.CountString", "internal/bytealg.IndexString", "internal/bytealg.abigen_runtime_cmpstring"], unfollowed := true, recurses := true, named := ["internal/bytealg.MaxLen", "unicode/utf8.first", "unicode/utf8.acceptRanges"], apart := false, laid := [("unicode/utf8.acceptRanges", laid_unicode_utf8_acceptRanges), ("unicode/utf8.first", laid_unicode_utf8_first)] }
def ExpandLinesSaid : Prop := expandLinesRow.holds Tryz.pinned (OpenSpec.ofChange expandLinesSpec)

/-- ITS FALSE NEIGHBOUR: 'it returns false'. Refute it at one input. -/
def expandLinesWrong : ChangeSpec := { name := "expandLines", fn := fun _ => fun
  | [d] => { results := [.lit (.bool false)], args := [d] }
  | _ => none }
def ExpandLinesWrongFalsely : Prop := expandLinesRow.holds Tryz.pinned (OpenSpec.ofChange expandLinesWrong)

/-- 'licitlaw07.ExpandSimple': WHATEVER THE INPUT: true; the input reads as it did. -/
def expandSimpleSpec : ChangeSpec := { name := "expandSimple", fn := fun _ => fun
  | [d] => { results := [.lit (.bool true)], args := [d] }
  | _ => none }
def expandSimpleRow : OpenClaim := { program := "ytapnigckcnknoaagreatdoor", sum := "b0e2e8541af3565b1cb782bf964b2a0e9f717ed3ff406775ad26a31c4d64e445", func := "licit/licitlaw07.ExpandSimple", spec := "expandSimple", inPlace := ["internal/bytealg.IndexByteString", "internal/abi.NoEscape", "internal/bytealg.MakeNoZero", "internal/bytealg.CountString", "internal/bytealg.IndexString", "internal/bytealg.abigen_runtime_cmpstring"], unfollowed := true, recurses := true, named := ["internal/bytealg.MaxLen", "unicode/utf8.first", "unicode/utf8.acceptRanges"], apart := false, laid := [("unicode/utf8.acceptRanges", laid_unicode_utf8_acceptRanges), ("unicode/utf8.first", laid_unicode_utf8_first)] }
def ExpandSimpleSaid : Prop := expandSimpleRow.holds Tryz.pinned (OpenSpec.ofChange expandSimpleSpec)

/-- ITS FALSE NEIGHBOUR: 'it returns false'. Refute it at one input. -/
def expandSimpleWrong : ChangeSpec := { name := "expandSimple", fn := fun _ => fun
  | [d] => { results := [.lit (.bool false)], args := [d] }
  | _ => none }
def ExpandSimpleWrongFalsely : Prop := expandSimpleRow.holds Tryz.pinned (OpenSpec.ofChange expandSimpleWrong)

/-- 'licitlaw07.ExpandJoins': WHATEVER THE INPUT: true; the input reads as it did. -/
def expandJoinsSpec : ChangeSpec := { name := "expandJoins", fn := fun _ => fun
  | [d1, d2] => { results := [.lit (.bool true)], args := [d1, d2] }
  | _ => none }
def expandJoinsRow : OpenClaim := { program := "ytapnigckcnknoaagreatdoor", sum := "b0e2e8541af3565b1cb782bf964b2a0e9f717ed3ff406775ad26a31c4d64e445", func := "licit/licitlaw07.ExpandJoins", spec := "expandJoins", inPlace := ["internal/bytealg.IndexByteString", "internal/abi.NoEscape", "internal/bytealg.MakeNoZero", "internal/bytealg.CountString", "internal/bytealg.IndexString", "internal/bytealg.abigen_runtime_cmpstring"], unfollowed := true, recurses := true, named := ["internal/bytealg.MaxLen", "unicode/utf8.first", "unicode/utf8.acceptRanges"], apart := false, laid := [("unicode/utf8.acceptRanges", laid_unicode_utf8_acceptRanges), ("unicode/utf8.first", laid_unicode_utf8_first)] }
def ExpandJoinsSaid : Prop := expandJoinsRow.holds Tryz.pinned (OpenSpec.ofChange expandJoinsSpec)

/-- ITS FALSE NEIGHBOUR: 'it returns false'. Refute it at one input. -/
def expandJoinsWrong : ChangeSpec := { name := "expandJoins", fn := fun _ => fun
  | [d1, d2] => { results := [.lit (.bool false)], args := [d1, d2] }
  | _ => none }
def ExpandJoinsWrongFalsely : Prop := expandJoinsRow.holds Tryz.pinned (OpenSpec.ofChange expandJoinsWrong)

/-- 'licitlaw07.ExpandPlain': WHATEVER THE INPUT: true; the input reads as it did. -/
def expandPlainSpec : ChangeSpec := { name := "expandPlain", fn := fun _ => fun
  | [d] => { results := [.lit (.bool true)], args := [d] }
  | _ => none }
def expandPlainRow : OpenClaim := { program := "ytapnigckcnknoaagreatdoor", sum := "b0e2e8541af3565b1cb782bf964b2a0e9f717ed3ff406775ad26a31c4d64e445", func := "licit/licitlaw07.ExpandPlain", spec := "expandPlain", inPlace := ["internal/bytealg.IndexByteString", "internal/abi.NoEscape", "internal/bytealg.MakeNoZero", "internal/bytealg.CountString", "internal/bytealg.IndexString", "internal/bytealg.abigen_runtime_cmpstring"], unfollowed := true, recurses := true, named := ["internal/bytealg.MaxLen", "unicode/utf8.first", "unicode/utf8.acceptRanges"], apart := false, laid := [("unicode/utf8.acceptRanges", laid_unicode_utf8_acceptRanges), ("unicode/utf8.first", laid_unicode_utf8_first)] }
def ExpandPlainSaid : Prop := expandPlainRow.holds Tryz.pinned (OpenSpec.ofChange expandPlainSpec)

/-- ITS FALSE NEIGHBOUR: 'it returns false'. Refute it at one input. -/
def expandPlainWrong : ChangeSpec := { name := "expandPlain", fn := fun _ => fun
  | [d] => { results := [.lit (.bool false)], args := [d] }
  | _ => none }
def ExpandPlainWrongFalsely : Prop := expandPlainRow.holds Tryz.pinned (OpenSpec.ofChange expandPlainWrong)

/-- 'licitlaw07.ExpandUnread': WHATEVER THE INPUT: true; the input reads as it did. -/
def expandUnreadSpec : ChangeSpec := { name := "expandUnread", fn := fun _ => fun
  | [d] => { results := [.lit (.bool true)], args := [d] }
  | _ => none }
def expandUnreadRow : OpenClaim := { program := "ytapnigckcnknoaagreatdoor", sum := "b0e2e8541af3565b1cb782bf964b2a0e9f717ed3ff406775ad26a31c4d64e445", func := "licit/licitlaw07.ExpandUnread", spec := "expandUnread", inPlace := ["internal/bytealg.IndexByteString", "internal/abi.NoEscape", "internal/bytealg.MakeNoZero", "internal/bytealg.CountString", "internal/bytealg.IndexString", "internal/bytealg.abigen_runtime_cmpstring"], unfollowed := true, recurses := true, named := ["internal/bytealg.MaxLen", "unicode/utf8.first", "unicode/utf8.acceptRanges"], apart := false, laid := [("unicode/utf8.acceptRanges", laid_unicode_utf8_acceptRanges), ("unicode/utf8.first", laid_unicode_utf8_first)] }
def ExpandUnreadSaid : Prop := expandUnreadRow.holds Tryz.pinned (OpenSpec.ofChange expandUnreadSpec)

/-- ITS FALSE NEIGHBOUR: 'it returns false'. Refute it at one input. -/
def expandUnreadWrong : ChangeSpec := { name := "expandUnread", fn := fun _ => fun
  | [d] => { results := [.lit (.bool false)], args := [d] }
  | _ => none }
def ExpandUnreadWrongFalsely : Prop := expandUnreadRow.holds Tryz.pinned (OpenSpec.ofChange expandUnreadWrong)

/- THE SECOND FORM. 'bulk': how many values and letters a reading holds, each counted each time it is reached (what is shared counts as often as it is met; a slice's spare places count too). A statement '..UptoSaid' is the law's where the arguments, and the package variables that the reading takes, are together of bulk at most 1048576: NARROWER than '..Said'. Prove '..Said' where nothing that the law and all that it calls make is longer than what came in: it says more and counts as full. Else prove '..UptoSaid'. A law counts once. -/
mutual
def uptoBulk {H : Type} : DataW H → Nat
  | .lit (.string bytes) => bytes.length + 1
  | .lit _ => 1
  | .nil => 1
  | .ptr d => uptoBulk d + 1
  | .slice elems spare => uptoBulkAll elems + uptoBulkAll spare + 1
  | .agg parts => uptoBulkAll parts + 1
  | .iface _ d => uptoBulk d + 1
  | .map entries => uptoBulkEntries entries + 1
  | .held _ => 1
def uptoBulkAll {H : Type} : List (DataW H) → Nat
  | [] => 0
  | d :: r => uptoBulk d + uptoBulkAll r
def uptoBulkEntries {H : Type} : List (Lit × DataW H) → Nat
  | [] => 0
  | x :: r => uptoBulkEntry x + uptoBulkEntries r
def uptoBulkEntry {H : Type} : Lit × DataW H → Nat
  | (.string bytes, d) => bytes.length + uptoBulk d + 1
  | (_, d) => uptoBulk d + 1
 end
def uptoSmall : (H : Type) → List (DataW H) → Bool := fun _ ds => decide (uptoBulkAll ds ≤ 1048576)
def OpenSpec.upto (s : _root_.Go.ChangeSpec) : _root_.Go.OpenSpec := { _root_.Go.OpenSpec.ofChange s with cond := some uptoSmall }

/-- 'licitlaw07.ExpandBodies', WHERE WHAT IT READS IS OF BULK AT MOST 1048576: true; the input reads as it did. -/
def expandBodiesUptoRow : OpenClaim := { program := "ytapnigckcnknoaagreatdoor", sum := "b0e2e8541af3565b1cb782bf964b2a0e9f717ed3ff406775ad26a31c4d64e445", func := "licit/licitlaw07.ExpandBodies", spec := "expandBodies", inPlace := ["internal/bytealg.IndexByteString", "internal/abi.NoEscape", "internal/bytealg.MakeNoZero", "internal/bytealg.CountString", "internal/bytealg.IndexString", "internal/bytealg.abigen_runtime_cmpstring"], unfollowed := true, recurses := true, named := ["internal/bytealg.MaxLen", "unicode/utf8.first", "unicode/utf8.acceptRanges"], apart := false, laid := [("unicode/utf8.acceptRanges", laid_unicode_utf8_acceptRanges), ("unicode/utf8.first", laid_unicode_utf8_first)], narrowed := true }
def ExpandBodiesUptoSaid : Prop := expandBodiesUptoRow.holds Tryz.pinned (OpenSpec.upto expandBodiesSpec)

/-- 'licitlaw07.ExpandLines', WHERE WHAT IT READS IS OF BULK AT MOST 1048576: true; the input reads as it did. -/
def expandLinesUptoRow : OpenClaim := { program := "ytapnigckcnknoaagreatdoor", sum := "b0e2e8541af3565b1cb782bf964b2a0e9f717ed3ff406775ad26a31c4d64e445", func := "licit/licitlaw07.ExpandLines", spec := "expandLines", inPlace := ["internal/bytealg.IndexByteString", "internal/abi.NoEscape", "internal/bytealg.MakeNoZero", "internal/bytealg.CountString", "internal/bytealg.IndexString", "internal/bytealg.abigen_runtime_cmpstring"], unfollowed := true, recurses := true, named := ["internal/bytealg.MaxLen", "unicode/utf8.first", "unicode/utf8.acceptRanges"], apart := false, laid := [("unicode/utf8.acceptRanges", laid_unicode_utf8_acceptRanges), ("unicode/utf8.first", laid_unicode_utf8_first)], narrowed := true }
def ExpandLinesUptoSaid : Prop := expandLinesUptoRow.holds Tryz.pinned (OpenSpec.upto expandLinesSpec)

/-- 'licitlaw07.ExpandSimple', WHERE WHAT IT READS IS OF BULK AT MOST 1048576: true; the input reads as it did. -/
def expandSimpleUptoRow : OpenClaim := { program := "ytapnigckcnknoaagreatdoor", sum := "b0e2e8541af3565b1cb782bf964b2a0e9f717ed3ff406775ad26a31c4d64e445", func := "licit/licitlaw07.ExpandSimple", spec := "expandSimple", inPlace := ["internal/bytealg.IndexByteString", "internal/abi.NoEscape", "internal/bytealg.MakeNoZero", "internal/bytealg.CountString", "internal/bytealg.IndexString", "internal/bytealg.abigen_runtime_cmpstring"], unfollowed := true, recurses := true, named := ["internal/bytealg.MaxLen", "unicode/utf8.first", "unicode/utf8.acceptRanges"], apart := false, laid := [("unicode/utf8.acceptRanges", laid_unicode_utf8_acceptRanges), ("unicode/utf8.first", laid_unicode_utf8_first)], narrowed := true }
def ExpandSimpleUptoSaid : Prop := expandSimpleUptoRow.holds Tryz.pinned (OpenSpec.upto expandSimpleSpec)

/-- 'licitlaw07.ExpandJoins', WHERE WHAT IT READS IS OF BULK AT MOST 1048576: true; the input reads as it did. -/
def expandJoinsUptoRow : OpenClaim := { program := "ytapnigckcnknoaagreatdoor", sum := "b0e2e8541af3565b1cb782bf964b2a0e9f717ed3ff406775ad26a31c4d64e445", func := "licit/licitlaw07.ExpandJoins", spec := "expandJoins", inPlace := ["internal/bytealg.IndexByteString", "internal/abi.NoEscape", "internal/bytealg.MakeNoZero", "internal/bytealg.CountString", "internal/bytealg.IndexString", "internal/bytealg.abigen_runtime_cmpstring"], unfollowed := true, recurses := true, named := ["internal/bytealg.MaxLen", "unicode/utf8.first", "unicode/utf8.acceptRanges"], apart := false, laid := [("unicode/utf8.acceptRanges", laid_unicode_utf8_acceptRanges), ("unicode/utf8.first", laid_unicode_utf8_first)], narrowed := true }
def ExpandJoinsUptoSaid : Prop := expandJoinsUptoRow.holds Tryz.pinned (OpenSpec.upto expandJoinsSpec)

/-- 'licitlaw07.ExpandPlain', WHERE WHAT IT READS IS OF BULK AT MOST 1048576: true; the input reads as it did. -/
def expandPlainUptoRow : OpenClaim := { program := "ytapnigckcnknoaagreatdoor", sum := "b0e2e8541af3565b1cb782bf964b2a0e9f717ed3ff406775ad26a31c4d64e445", func := "licit/licitlaw07.ExpandPlain", spec := "expandPlain", inPlace := ["internal/bytealg.IndexByteString", "internal/abi.NoEscape", "internal/bytealg.MakeNoZero", "internal/bytealg.CountString", "internal/bytealg.IndexString", "internal/bytealg.abigen_runtime_cmpstring"], unfollowed := true, recurses := true, named := ["internal/bytealg.MaxLen", "unicode/utf8.first", "unicode/utf8.acceptRanges"], apart := false, laid := [("unicode/utf8.acceptRanges", laid_unicode_utf8_acceptRanges), ("unicode/utf8.first", laid_unicode_utf8_first)], narrowed := true }
def ExpandPlainUptoSaid : Prop := expandPlainUptoRow.holds Tryz.pinned (OpenSpec.upto expandPlainSpec)

/-- 'licitlaw07.ExpandUnread', WHERE WHAT IT READS IS OF BULK AT MOST 1048576: true; the input reads as it did. -/
def expandUnreadUptoRow : OpenClaim := { program := "ytapnigckcnknoaagreatdoor", sum := "b0e2e8541af3565b1cb782bf964b2a0e9f717ed3ff406775ad26a31c4d64e445", func := "licit/licitlaw07.ExpandUnread", spec := "expandUnread", inPlace := ["internal/bytealg.IndexByteString", "internal/abi.NoEscape", "internal/bytealg.MakeNoZero", "internal/bytealg.CountString", "internal/bytealg.IndexString", "internal/bytealg.abigen_runtime_cmpstring"], unfollowed := true, recurses := true, named := ["internal/bytealg.MaxLen", "unicode/utf8.first", "unicode/utf8.acceptRanges"], apart := false, laid := [("unicode/utf8.acceptRanges", laid_unicode_utf8_acceptRanges), ("unicode/utf8.first", laid_unicode_utf8_first)], narrowed := true }
def ExpandUnreadUptoSaid : Prop := expandUnreadUptoRow.holds Tryz.pinned (OpenSpec.upto expandUnreadSpec)

end Rows
end Go.Proofs.YtapnigckcnknoaaGreatDoor
