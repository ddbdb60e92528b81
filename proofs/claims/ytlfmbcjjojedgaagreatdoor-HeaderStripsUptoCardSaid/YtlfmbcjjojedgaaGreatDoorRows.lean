/-
  NARROWER THAN 'FOR EVERY INPUT', by the rows' own cells (each row's printed sentence says how): HeaderScans: laid · HeaderCollects: laid · HeaderWrites: laid · HeaderPuts: laid · HeaderDeclares: loops, laid · HeaderHolders: laid · HeaderLines: laid · HeaderStrips: laid.
  DERIVED. THE GIVEN ROWS OF THIS SEAT. 8 by the template 'for every input the law returns true; each argument reads behind the call as it read before'; 0 by the template 'total and deterministic' (their statements: YtlfmbcjjojedgaaGreatDoorTotals.lean).
  GIVEN WITH THE SEED: the statements are not yours to turn. If you find one false, say at which input.
  Laid BY PROGRAM, IN A SANDBOX (cutbox-rows.mjs): the forced cells as the released guide's own fill.sh prints them over the translation 3439ff1c78f04328… (all of the seat's roots in one cut). By AI agents, Wed Nov 11 2026. No macro, syntax, notation, axiom, sorry.
-/
import Derived.Test.YtlfmbcjjojedgaaGreatDoorChecked
import GoSem.PinnedTables
import GoSem.Claim
import GoSem.ClaimJoined
import GoSem.ClaimMapViews
import Derived.JoinedTies
import Derived.KernelRfl
namespace Go.Proofs.YtlfmbcjjojedgaaGreatDoor
/- THE CELL 'sum', in the pinned program and in every row, IS THE sha256 OF THE DUMP (.gsa) THAT YtlfmbcjjojedgaaGreatDoorProg.lean LOADS. Nothing in Lean hashes anything: it is a label: what it is worth is what the hold of that sum in a sandbox is worth. -/
noncomputable def Tryz.pinned : Pinned := { name := "ytlfmbcjjojedgaagreatdoor", sum := "3439ff1c78f04328e3d86c38ad34f279859d693b1888d138cbf219d12da2cc0a", checked := Tryz.checked }
namespace Rows
def none {H : Type} : Left H := { results := [], args := [] }

/- WHAT THE LISTED PACKAGE-LEVEL VARIABLES READ AS WHEN THE CALL BEGINS. Each datum BY PROGRAM (the guide's laid-datum.mjs) off the statement by which the dump's own 'gosem.cut.vars' lays the variable. In a bare row this is a premise. The card (YtlfmbcjjojedgaaGreatDoorCards.lean) ties it to the program's text. -/
def laid_unicode_utf8_acceptRanges {H : Type} : DataW H := .agg [.agg [.lit (.int .u8 128), .lit (.int .u8 191)], .agg [.lit (.int .u8 160), .lit (.int .u8 191)], .agg [.lit (.int .u8 128), .lit (.int .u8 159)], .agg [.lit (.int .u8 144), .lit (.int .u8 191)], .agg [.lit (.int .u8 128), .lit (.int .u8 143)], .agg [.lit (.int .u8 0), .lit (.int .u8 0)], .agg [.lit (.int .u8 0), .lit (.int .u8 0)], .agg [.lit (.int .u8 0), .lit (.int .u8 0)], .agg [.lit (.int .u8 0), .lit (.int .u8 0)], .agg [.lit (.int .u8 0), .lit (.int .u8 0)], .agg [.lit (.int .u8 0), .lit (.int .u8 0)], .agg [.lit (.int .u8 0), .lit (.int .u8 0)], .agg [.lit (.int .u8 0), .lit (.int .u8 0)], .agg [.lit (.int .u8 0), .lit (.int .u8 0)], .agg [.lit (.int .u8 0), .lit (.int .u8 0)], .agg [.lit (.int .u8 0), .lit (.int .u8 0)]]
/-- One of Go's own tables, pinned by name: the form's constant. -/
def laid_unicode_utf8_first : DataW Unit := Go.Pinned.utf8First

/-- 'licitlaw36.HeaderScans': WHATEVER THE INPUT: true; the input reads as it did. -/
def headerScansSpec : ChangeSpec := { name := "headerScans", fn := fun _ => fun
  | [d] => { results := [.lit (.bool true)], args := [d] }
  | _ => none }
def headerScansRow : OpenClaim := { program := "ytlfmbcjjojedgaagreatdoor", sum := "3439ff1c78f04328e3d86c38ad34f279859d693b1888d138cbf219d12da2cc0a", func := "licit/licitlaw36.HeaderScans", spec := "headerScans", inPlace := ["internal/bytealg.IndexByteString", "internal/bytealg.IndexString", "internal/abi.NoEscape", "internal/bytealg.MakeNoZero"], unfollowed := true, recurses := true, named := ["internal/bytealg.MaxLen", "unicode/utf8.first", "unicode/utf8.acceptRanges"], apart := false, laid := [("unicode/utf8.acceptRanges", laid_unicode_utf8_acceptRanges), ("unicode/utf8.first", laid_unicode_utf8_first)] }
def HeaderScansSaid : Prop := headerScansRow.holds Tryz.pinned (OpenSpec.ofChange headerScansSpec)

/-- ITS FALSE NEIGHBOUR: 'it returns false'. Refute it at one input. -/
def headerScansWrong : ChangeSpec := { name := "headerScans", fn := fun _ => fun
  | [d] => { results := [.lit (.bool false)], args := [d] }
  | _ => none }
def HeaderScansWrongFalsely : Prop := headerScansRow.holds Tryz.pinned (OpenSpec.ofChange headerScansWrong)

/-- 'licitlaw36.HeaderCollects': WHATEVER THE INPUT: true; the input reads as it did. -/
def headerCollectsSpec : ChangeSpec := { name := "headerCollects", fn := fun _ => fun
  | [d] => { results := [.lit (.bool true)], args := [d] }
  | _ => none }
def headerCollectsRow : OpenClaim := { program := "ytlfmbcjjojedgaagreatdoor", sum := "3439ff1c78f04328e3d86c38ad34f279859d693b1888d138cbf219d12da2cc0a", func := "licit/licitlaw36.HeaderCollects", spec := "headerCollects", inPlace := ["internal/bytealg.IndexByteString", "internal/bytealg.IndexString", "internal/abi.NoEscape", "internal/bytealg.MakeNoZero"], unfollowed := true, recurses := true, named := ["internal/bytealg.MaxLen", "unicode/utf8.first", "unicode/utf8.acceptRanges"], apart := false, laid := [("unicode/utf8.acceptRanges", laid_unicode_utf8_acceptRanges), ("unicode/utf8.first", laid_unicode_utf8_first)] }
def HeaderCollectsSaid : Prop := headerCollectsRow.holds Tryz.pinned (OpenSpec.ofChange headerCollectsSpec)

/-- ITS FALSE NEIGHBOUR: 'it returns false'. Refute it at one input. -/
def headerCollectsWrong : ChangeSpec := { name := "headerCollects", fn := fun _ => fun
  | [d] => { results := [.lit (.bool false)], args := [d] }
  | _ => none }
def HeaderCollectsWrongFalsely : Prop := headerCollectsRow.holds Tryz.pinned (OpenSpec.ofChange headerCollectsWrong)

/-- 'licitlaw36.HeaderWrites': WHATEVER THE INPUT: true; the input reads as it did. -/
def headerWritesSpec : ChangeSpec := { name := "headerWrites", fn := fun _ => fun
  | [d1, d2, d3] => { results := [.lit (.bool true)], args := [d1, d2, d3] }
  | _ => none }
def headerWritesRow : OpenClaim := { program := "ytlfmbcjjojedgaagreatdoor", sum := "3439ff1c78f04328e3d86c38ad34f279859d693b1888d138cbf219d12da2cc0a", func := "licit/licitlaw36.HeaderWrites", spec := "headerWrites", inPlace := ["internal/bytealg.IndexByteString", "internal/bytealg.IndexString", "internal/abi.NoEscape", "internal/bytealg.MakeNoZero"], unfollowed := true, recurses := true, named := ["internal/bytealg.MaxLen", "unicode/utf8.first", "unicode/utf8.acceptRanges"], apart := false, laid := [("unicode/utf8.acceptRanges", laid_unicode_utf8_acceptRanges), ("unicode/utf8.first", laid_unicode_utf8_first)] }
def HeaderWritesSaid : Prop := headerWritesRow.holds Tryz.pinned (OpenSpec.ofChange headerWritesSpec)

/-- ITS FALSE NEIGHBOUR: 'it returns false'. Refute it at one input. -/
def headerWritesWrong : ChangeSpec := { name := "headerWrites", fn := fun _ => fun
  | [d1, d2, d3] => { results := [.lit (.bool false)], args := [d1, d2, d3] }
  | _ => none }
def HeaderWritesWrongFalsely : Prop := headerWritesRow.holds Tryz.pinned (OpenSpec.ofChange headerWritesWrong)

/-- 'licitlaw36.HeaderPuts': WHATEVER THE INPUT: true; the input reads as it did. -/
def headerPutsSpec : ChangeSpec := { name := "headerPuts", fn := fun _ => fun
  | [d1, d2, d3] => { results := [.lit (.bool true)], args := [d1, d2, d3] }
  | _ => none }
def headerPutsRow : OpenClaim := { program := "ytlfmbcjjojedgaagreatdoor", sum := "3439ff1c78f04328e3d86c38ad34f279859d693b1888d138cbf219d12da2cc0a", func := "licit/licitlaw36.HeaderPuts", spec := "headerPuts", inPlace := ["internal/bytealg.IndexByteString", "internal/bytealg.IndexString", "internal/abi.NoEscape", "internal/bytealg.MakeNoZero"], unfollowed := true, recurses := true, named := ["internal/bytealg.MaxLen", "unicode/utf8.first", "unicode/utf8.acceptRanges"], apart := false, laid := [("unicode/utf8.acceptRanges", laid_unicode_utf8_acceptRanges), ("unicode/utf8.first", laid_unicode_utf8_first)] }
def HeaderPutsSaid : Prop := headerPutsRow.holds Tryz.pinned (OpenSpec.ofChange headerPutsSpec)

/-- ITS FALSE NEIGHBOUR: 'it returns false'. Refute it at one input. -/
def headerPutsWrong : ChangeSpec := { name := "headerPuts", fn := fun _ => fun
  | [d1, d2, d3] => { results := [.lit (.bool false)], args := [d1, d2, d3] }
  | _ => none }
def HeaderPutsWrongFalsely : Prop := headerPutsRow.holds Tryz.pinned (OpenSpec.ofChange headerPutsWrong)

/-- 'licitlaw36.HeaderDeclares': WHATEVER THE INPUT: true; the input reads as it did. -/
def headerDeclaresSpec : ChangeSpec := { name := "headerDeclares", fn := fun _ => fun
  | [d] => { results := [.lit (.bool true)], args := [d] }
  | _ => none }
def headerDeclaresRow : OpenClaim := { program := "ytlfmbcjjojedgaagreatdoor", sum := "3439ff1c78f04328e3d86c38ad34f279859d693b1888d138cbf219d12da2cc0a", func := "licit/licitlaw36.HeaderDeclares", spec := "headerDeclares", inPlace := ["internal/bytealg.IndexByteString", "internal/bytealg.IndexString", "internal/abi.NoEscape", "internal/bytealg.MakeNoZero"], unfollowed := true, recurses := true, named := ["internal/bytealg.MaxLen", "unicode/utf8.first", "unicode/utf8.acceptRanges"], loops := true, apart := false, laid := [("unicode/utf8.acceptRanges", laid_unicode_utf8_acceptRanges), ("unicode/utf8.first", laid_unicode_utf8_first)] }
def HeaderDeclaresSaid : Prop := headerDeclaresRow.holds Tryz.pinned (OpenSpec.ofChange headerDeclaresSpec)

/-- ITS FALSE NEIGHBOUR: 'it returns false'. Refute it at one input. -/
def headerDeclaresWrong : ChangeSpec := { name := "headerDeclares", fn := fun _ => fun
  | [d] => { results := [.lit (.bool false)], args := [d] }
  | _ => none }
def HeaderDeclaresWrongFalsely : Prop := headerDeclaresRow.holds Tryz.pinned (OpenSpec.ofChange headerDeclaresWrong)

/-- 'licitlaw36.HeaderHolders': WHATEVER THE INPUT: true; the input reads as it did. -/
def headerHoldersSpec : ChangeSpec := { name := "headerHolders", fn := fun _ => fun
  | [d] => { results := [.lit (.bool true)], args := [d] }
  | _ => none }
def headerHoldersRow : OpenClaim := { program := "ytlfmbcjjojedgaagreatdoor", sum := "3439ff1c78f04328e3d86c38ad34f279859d693b1888d138cbf219d12da2cc0a", func := "licit/licitlaw36.HeaderHolders", spec := "headerHolders", inPlace := ["internal/bytealg.IndexByteString", "internal/bytealg.IndexString", "internal/abi.NoEscape", "internal/bytealg.MakeNoZero"], unfollowed := true, recurses := true, named := ["internal/bytealg.MaxLen", "unicode/utf8.first", "unicode/utf8.acceptRanges"], apart := false, laid := [("unicode/utf8.acceptRanges", laid_unicode_utf8_acceptRanges), ("unicode/utf8.first", laid_unicode_utf8_first)] }
def HeaderHoldersSaid : Prop := headerHoldersRow.holds Tryz.pinned (OpenSpec.ofChange headerHoldersSpec)

/-- ITS FALSE NEIGHBOUR: 'it returns false'. Refute it at one input. -/
def headerHoldersWrong : ChangeSpec := { name := "headerHolders", fn := fun _ => fun
  | [d] => { results := [.lit (.bool false)], args := [d] }
  | _ => none }
def HeaderHoldersWrongFalsely : Prop := headerHoldersRow.holds Tryz.pinned (OpenSpec.ofChange headerHoldersWrong)

/-- 'licitlaw36.HeaderLines': WHATEVER THE INPUT: true; the input reads as it did. -/
def headerLinesSpec : ChangeSpec := { name := "headerLines", fn := fun _ => fun
  | [d1, d2, d3, d4, d5] => { results := [.lit (.bool true)], args := [d1, d2, d3, d4, d5] }
  | _ => none }
def headerLinesRow : OpenClaim := { program := "ytlfmbcjjojedgaagreatdoor", sum := "3439ff1c78f04328e3d86c38ad34f279859d693b1888d138cbf219d12da2cc0a", func := "licit/licitlaw36.HeaderLines", spec := "headerLines", inPlace := ["internal/bytealg.IndexByteString", "internal/bytealg.IndexString", "internal/abi.NoEscape", "internal/bytealg.MakeNoZero", "internal/bytealg.CountString"], unfollowed := true, recurses := true, named := ["internal/bytealg.MaxLen", "unicode/utf8.first", "unicode/utf8.acceptRanges"], apart := false, laid := [("unicode/utf8.acceptRanges", laid_unicode_utf8_acceptRanges), ("unicode/utf8.first", laid_unicode_utf8_first)] }
def HeaderLinesSaid : Prop := headerLinesRow.holds Tryz.pinned (OpenSpec.ofChange headerLinesSpec)

/-- ITS FALSE NEIGHBOUR: 'it returns false'. Refute it at one input. -/
def headerLinesWrong : ChangeSpec := { name := "headerLines", fn := fun _ => fun
  | [d1, d2, d3, d4, d5] => { results := [.lit (.bool false)], args := [d1, d2, d3, d4, d5] }
  | _ => none }
def HeaderLinesWrongFalsely : Prop := headerLinesRow.holds Tryz.pinned (OpenSpec.ofChange headerLinesWrong)

/-- 'licitlaw36.HeaderStrips': WHATEVER THE INPUT: true; the input reads as it did. -/
def headerStripsSpec : ChangeSpec := { name := "headerStrips", fn := fun _ => fun
  | [d] => { results := [.lit (.bool true)], args := [d] }
  | _ => none }
def headerStripsRow : OpenClaim := { program := "ytlfmbcjjojedgaagreatdoor", sum := "3439ff1c78f04328e3d86c38ad34f279859d693b1888d138cbf219d12da2cc0a", func := "licit/licitlaw36.HeaderStrips", spec := "headerStrips", inPlace := ["internal/bytealg.IndexByteString", "internal/bytealg.IndexString", "internal/abi.NoEscape", "internal/bytealg.MakeNoZero", "internal/bytealg.CountString"], unfollowed := true, recurses := true, named := ["internal/bytealg.MaxLen", "unicode/utf8.first", "unicode/utf8.acceptRanges"], apart := false, laid := [("unicode/utf8.acceptRanges", laid_unicode_utf8_acceptRanges), ("unicode/utf8.first", laid_unicode_utf8_first)] }
def HeaderStripsSaid : Prop := headerStripsRow.holds Tryz.pinned (OpenSpec.ofChange headerStripsSpec)

/-- ITS FALSE NEIGHBOUR: 'it returns false'. Refute it at one input. -/
def headerStripsWrong : ChangeSpec := { name := "headerStrips", fn := fun _ => fun
  | [d] => { results := [.lit (.bool false)], args := [d] }
  | _ => none }
def HeaderStripsWrongFalsely : Prop := headerStripsRow.holds Tryz.pinned (OpenSpec.ofChange headerStripsWrong)

/- THE SECOND FORM. 'bulk': how many values and letters a reading holds, each counted each time it is reached (what is shared counts as often as it is met; a slice's spare places count too). A statement '..UptoSaid' is the law's where the arguments, and the package variables that the reading takes, are together of bulk at most 1048576: NARROWER than '..Said'. Prove '..Said' where nothing that the law and all that it calls make is longer than what came in: it says more and counts as full. Else prove '..UptoSaid'. A law counts once. -/
mutual
def uptoBulk {H : Type} : DataW H → Nat
  | .lit (.string bytes) => bytes.length + 1
  | .lit _ => 1
  | .nil => 1
  | .ptr d => uptoBulk d + 1
  | .slice elems spare => uptoBulkAll elems + uptoBulkAll spare + 1
  | .agg parts => uptoBulkAll parts + 1
  | .iface _ d => uptoBulk d + 1
  | .map entries => uptoBulkEntries entries + 1
  | .held _ => 1
def uptoBulkAll {H : Type} : List (DataW H) → Nat
  | [] => 0
  | d :: r => uptoBulk d + uptoBulkAll r
def uptoBulkEntries {H : Type} : List (Lit × DataW H) → Nat
  | [] => 0
  | x :: r => uptoBulkEntry x + uptoBulkEntries r
def uptoBulkEntry {H : Type} : Lit × DataW H → Nat
  | (.string bytes, d) => bytes.length + uptoBulk d + 1
  | (_, d) => uptoBulk d + 1
 end
def uptoSmall : (H : Type) → List (DataW H) → Bool := fun _ ds => decide (uptoBulkAll ds ≤ 1048576)
def OpenSpec.upto (s : _root_.Go.ChangeSpec) : _root_.Go.OpenSpec := { _root_.Go.OpenSpec.ofChange s with cond := some uptoSmall }

/-- 'licitlaw36.HeaderScans', WHERE WHAT IT READS IS OF BULK AT MOST 1048576: true; the input reads as it did. -/
def headerScansUptoRow : OpenClaim := { program := "ytlfmbcjjojedgaagreatdoor", sum := "3439ff1c78f04328e3d86c38ad34f279859d693b1888d138cbf219d12da2cc0a", func := "licit/licitlaw36.HeaderScans", spec := "headerScans", inPlace := ["internal/bytealg.IndexByteString", "internal/bytealg.IndexString", "internal/abi.NoEscape", "internal/bytealg.MakeNoZero"], unfollowed := true, recurses := true, named := ["internal/bytealg.MaxLen", "unicode/utf8.first", "unicode/utf8.acceptRanges"], apart := false, laid := [("unicode/utf8.acceptRanges", laid_unicode_utf8_acceptRanges), ("unicode/utf8.first", laid_unicode_utf8_first)], narrowed := true }
def HeaderScansUptoSaid : Prop := headerScansUptoRow.holds Tryz.pinned (OpenSpec.upto headerScansSpec)

/-- 'licitlaw36.HeaderCollects', WHERE WHAT IT READS IS OF BULK AT MOST 1048576: true; the input reads as it did. -/
def headerCollectsUptoRow : OpenClaim := { program := "ytlfmbcjjojedgaagreatdoor", sum := "3439ff1c78f04328e3d86c38ad34f279859d693b1888d138cbf219d12da2cc0a", func := "licit/licitlaw36.HeaderCollects", spec := "headerCollects", inPlace := ["internal/bytealg.IndexByteString", "internal/bytealg.IndexString", "internal/abi.NoEscape", "internal/bytealg.MakeNoZero"], unfollowed := true, recurses := true, named := ["internal/bytealg.MaxLen", "unicode/utf8.first", "unicode/utf8.acceptRanges"], apart := false, laid := [("unicode/utf8.acceptRanges", laid_unicode_utf8_acceptRanges), ("unicode/utf8.first", laid_unicode_utf8_first)], narrowed := true }
def HeaderCollectsUptoSaid : Prop := headerCollectsUptoRow.holds Tryz.pinned (OpenSpec.upto headerCollectsSpec)

/-- 'licitlaw36.HeaderWrites', WHERE WHAT IT READS IS OF BULK AT MOST 1048576: true; the input reads as it did. -/
def headerWritesUptoRow : OpenClaim := { program := "ytlfmbcjjojedgaagreatdoor", sum := "3439ff1c78f04328e3d86c38ad34f279859d693b1888d138cbf219d12da2cc0a", func := "licit/licitlaw36.HeaderWrites", spec := "headerWrites", inPlace := ["internal/bytealg.IndexByteString", "internal/bytealg.IndexString", "internal/abi.NoEscape", "internal/bytealg.MakeNoZero"], unfollowed := true, recurses := true, named := ["internal/bytealg.MaxLen", "unicode/utf8.first", "unicode/utf8.acceptRanges"], apart := false, laid := [("unicode/utf8.acceptRanges", laid_unicode_utf8_acceptRanges), ("unicode/utf8.first", laid_unicode_utf8_first)], narrowed := true }
def HeaderWritesUptoSaid : Prop := headerWritesUptoRow.holds Tryz.pinned (OpenSpec.upto headerWritesSpec)

/-- 'licitlaw36.HeaderPuts', WHERE WHAT IT READS IS OF BULK AT MOST 1048576: true; the input reads as it did. -/
def headerPutsUptoRow : OpenClaim := { program := "ytlfmbcjjojedgaagreatdoor", sum := "3439ff1c78f04328e3d86c38ad34f279859d693b1888d138cbf219d12da2cc0a", func := "licit/licitlaw36.HeaderPuts", spec := "headerPuts", inPlace := ["internal/bytealg.IndexByteString", "internal/bytealg.IndexString", "internal/abi.NoEscape", "internal/bytealg.MakeNoZero"], unfollowed := true, recurses := true, named := ["internal/bytealg.MaxLen", "unicode/utf8.first", "unicode/utf8.acceptRanges"], apart := false, laid := [("unicode/utf8.acceptRanges", laid_unicode_utf8_acceptRanges), ("unicode/utf8.first", laid_unicode_utf8_first)], narrowed := true }
def HeaderPutsUptoSaid : Prop := headerPutsUptoRow.holds Tryz.pinned (OpenSpec.upto headerPutsSpec)

/-- 'licitlaw36.HeaderDeclares', WHERE WHAT IT READS IS OF BULK AT MOST 1048576: true; the input reads as it did. -/
def headerDeclaresUptoRow : OpenClaim := { program := "ytlfmbcjjojedgaagreatdoor", sum := "3439ff1c78f04328e3d86c38ad34f279859d693b1888d138cbf219d12da2cc0a", func := "licit/licitlaw36.HeaderDeclares", spec := "headerDeclares", inPlace := ["internal/bytealg.IndexByteString", "internal/bytealg.IndexString", "internal/abi.NoEscape", "internal/bytealg.MakeNoZero"], unfollowed := true, recurses := true, named := ["internal/bytealg.MaxLen", "unicode/utf8.first", "unicode/utf8.acceptRanges"], loops := true, apart := false, laid := [("unicode/utf8.acceptRanges", laid_unicode_utf8_acceptRanges), ("unicode/utf8.first", laid_unicode_utf8_first)], narrowed := true }
def HeaderDeclaresUptoSaid : Prop := headerDeclaresUptoRow.holds Tryz.pinned (OpenSpec.upto headerDeclaresSpec)

/-- 'licitlaw36.HeaderHolders', WHERE WHAT IT READS IS OF BULK AT MOST 1048576: true; the input reads as it did. -/
def headerHoldersUptoRow : OpenClaim := { program := "ytlfmbcjjojedgaagreatdoor", sum := "3439ff1c78f04328e3d86c38ad34f279859d693b1888d138cbf219d12da2cc0a", func := "licit/licitlaw36.HeaderHolders", spec := "headerHolders", inPlace := ["internal/bytealg.IndexByteString", "internal/bytealg.IndexString", "internal/abi.NoEscape", "internal/bytealg.MakeNoZero"], unfollowed := true, recurses := true, named := ["internal/bytealg.MaxLen", "unicode/utf8.first", "unicode/utf8.acceptRanges"], apart := false, laid := [("unicode/utf8.acceptRanges", laid_unicode_utf8_acceptRanges), ("unicode/utf8.first", laid_unicode_utf8_first)], narrowed := true }
def HeaderHoldersUptoSaid : Prop := headerHoldersUptoRow.holds Tryz.pinned (OpenSpec.upto headerHoldersSpec)

/-- 'licitlaw36.HeaderLines', WHERE WHAT IT READS IS OF BULK AT MOST 1048576: true; the input reads as it did. -/
def headerLinesUptoRow : OpenClaim := { program := "ytlfmbcjjojedgaagreatdoor", sum := "3439ff1c78f04328e3d86c38ad34f279859d693b1888d138cbf219d12da2cc0a", func := "licit/licitlaw36.HeaderLines", spec := "headerLines", inPlace := ["internal/bytealg.IndexByteString", "internal/bytealg.IndexString", "internal/abi.NoEscape", "internal/bytealg.MakeNoZero", "internal/bytealg.CountString"], unfollowed := true, recurses := true, named := ["internal/bytealg.MaxLen", "unicode/utf8.first", "unicode/utf8.acceptRanges"], apart := false, laid := [("unicode/utf8.acceptRanges", laid_unicode_utf8_acceptRanges), ("unicode/utf8.first", laid_unicode_utf8_first)], narrowed := true }
def HeaderLinesUptoSaid : Prop := headerLinesUptoRow.holds Tryz.pinned (OpenSpec.upto headerLinesSpec)

/-- 'licitlaw36.HeaderStrips', WHERE WHAT IT READS IS OF BULK AT MOST 1048576: true; the input reads as it did. -/
def headerStripsUptoRow : OpenClaim := { program := "ytlfmbcjjojedgaagreatdoor", sum := "3439ff1c78f04328e3d86c38ad34f279859d693b1888d138cbf219d12da2cc0a", func := "licit/licitlaw36.HeaderStrips", spec := "headerStrips", inPlace := ["internal/bytealg.IndexByteString", "internal/bytealg.IndexString", "internal/abi.NoEscape", "internal/bytealg.MakeNoZero", "internal/bytealg.CountString"], unfollowed := true, recurses := true, named := ["internal/bytealg.MaxLen", "unicode/utf8.first", "unicode/utf8.acceptRanges"], apart := false, laid := [("unicode/utf8.acceptRanges", laid_unicode_utf8_acceptRanges), ("unicode/utf8.first", laid_unicode_utf8_first)], narrowed := true }
def HeaderStripsUptoSaid : Prop := headerStripsUptoRow.holds Tryz.pinned (OpenSpec.upto headerStripsSpec)

end Rows
end Go.Proofs.YtlfmbcjjojedgaaGreatDoor
