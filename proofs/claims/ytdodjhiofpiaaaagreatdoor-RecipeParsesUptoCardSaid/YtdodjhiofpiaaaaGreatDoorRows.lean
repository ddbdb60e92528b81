/-
  NARROWER THAN 'FOR EVERY INPUT', by the rows' own cells (each row's printed sentence says how): RecipeParses: laid · RecipeChecks: laid · RecipePrints: laid · RecipeWords: laid.
  DERIVED. THE GIVEN ROWS OF THIS SEAT. 4 by the template 'for every input the law returns true; each argument reads behind the call as it read before'; 0 by the template 'total and deterministic' (their statements: YtdodjhiofpiaaaaGreatDoorTotals.lean).
  GIVEN WITH THE SEED: the statements are not yours to turn. If you find one false, say at which input.
  Laid BY PROGRAM, IN A SANDBOX (cutbox-rows.mjs): the forced cells as the released guide's own fill.sh prints them over the translation a9d356ab40586e85… (all of the seat's roots in one cut). By AI agents, Wed Nov 11 2026. No macro, syntax, notation, axiom, sorry.
-/
import Derived.Test.YtdodjhiofpiaaaaGreatDoorChecked
import GoSem.PinnedTables
import GoSem.Claim
import GoSem.ClaimJoined
import GoSem.ClaimMapViews
import Derived.JoinedTies
import Derived.KernelRfl
namespace Go.Proofs.YtdodjhiofpiaaaaGreatDoor
/- THE CELL 'sum', in the pinned program and in every row, IS THE sha256 OF THE DUMP (.gsa) THAT YtdodjhiofpiaaaaGreatDoorProg.lean LOADS. Nothing in Lean hashes anything: it is a label: what it is worth is what the hold of that sum in a sandbox is worth. -/
noncomputable def Tryz.pinned : Pinned := { name := "ytdodjhiofpiaaaagreatdoor", sum := "a9d356ab40586e85b8c2133620c47b852497bf589d9f04df291a6b239b0a573d", checked := Tryz.checked }
namespace Rows
def none {H : Type} : Left H := { results := [], args := [] }

/- WHAT THE LISTED PACKAGE-LEVEL VARIABLES READ AS WHEN THE CALL BEGINS. Each datum BY PROGRAM (the guide's laid-datum.mjs) off the statement by which the dump's own 'gosem.cut.vars' lays the variable. In a bare row this is a premise. The card (YtdodjhiofpiaaaaGreatDoorCards.lean) ties it to the program's text. -/
def laid_unicode_utf8_acceptRanges {H : Type} : DataW H := .agg [.agg [.lit (.int .u8 128), .lit (.int .u8 191)], .agg [.lit (.int .u8 160), .lit (.int .u8 191)], .agg [.lit (.int .u8 128), .lit (.int .u8 159)], .agg [.lit (.int .u8 144), .lit (.int .u8 191)], .agg [.lit (.int .u8 128), .lit (.int .u8 143)], .agg [.lit (.int .u8 0), .lit (.int .u8 0)], .agg [.lit (.int .u8 0), .lit (.int .u8 0)], .agg [.lit (.int .u8 0), .lit (.int .u8 0)], .agg [.lit (.int .u8 0), .lit (.int .u8 0)], .agg [.lit (.int .u8 0), .lit (.int .u8 0)], .agg [.lit (.int .u8 0), .lit (.int .u8 0)], .agg [.lit (.int .u8 0), .lit (.int .u8 0)], .agg [.lit (.int .u8 0), .lit (.int .u8 0)], .agg [.lit (.int .u8 0), .lit (.int .u8 0)], .agg [.lit (.int .u8 0), .lit (.int .u8 0)], .agg [.lit (.int .u8 0), .lit (.int .u8 0)]]
/-- One of Go's own tables, pinned by name: the form's constant. -/
def laid_unicode_utf8_first : DataW Unit := Go.Pinned.utf8First

/-- 'licitlaw14.RecipeParses': WHATEVER THE INPUT: true; the input reads as it did. -/
def recipeParsesSpec : ChangeSpec := { name := "recipeParses", fn := fun _ => fun
  | [d] => { results := [.lit (.bool true)], args := [d] }
  | _ => none }
def recipeParsesRow : OpenClaim := { program := "ytdodjhiofpiaaaagreatdoor", sum := "a9d356ab40586e85b8c2133620c47b852497bf589d9f04df291a6b239b0a573d", func := "licit/licitlaw14.RecipeParses", spec := "recipeParses", inPlace := ["internal/bytealg.CountString", "internal/bytealg.IndexByteString", "internal/bytealg.IndexString", "internal/abi.NoEscape", "internal/bytealg.MakeNoZero"], unfollowed := true, recurses := true, named := ["internal/bytealg.MaxLen", "unicode/utf8.first", "unicode/utf8.acceptRanges"], apart := false, laid := [("unicode/utf8.acceptRanges", laid_unicode_utf8_acceptRanges), ("unicode/utf8.first", laid_unicode_utf8_first)] }
def RecipeParsesSaid : Prop := recipeParsesRow.holds Tryz.pinned (OpenSpec.ofChange recipeParsesSpec)

/-- ITS FALSE NEIGHBOUR: 'it returns false'. Refute it at one input. -/
def recipeParsesWrong : ChangeSpec := { name := "recipeParses", fn := fun _ => fun
  | [d] => { results := [.lit (.bool false)], args := [d] }
  | _ => none }
def RecipeParsesWrongFalsely : Prop := recipeParsesRow.holds Tryz.pinned (OpenSpec.ofChange recipeParsesWrong)

/-- 'licitlaw14.RecipeChecks': WHATEVER THE INPUT: true; the input reads as it did. -/
def recipeChecksSpec : ChangeSpec := { name := "recipeChecks", fn := fun _ => fun
  | [d] => { results := [.lit (.bool true)], args := [d] }
  | _ => none }
def recipeChecksRow : OpenClaim := { program := "ytdodjhiofpiaaaagreatdoor", sum := "a9d356ab40586e85b8c2133620c47b852497bf589d9f04df291a6b239b0a573d", func := "licit/licitlaw14.RecipeChecks", spec := "recipeChecks", inPlace := ["internal/bytealg.CountString", "internal/bytealg.IndexByteString", "internal/bytealg.IndexString", "internal/abi.NoEscape", "internal/bytealg.MakeNoZero"], unfollowed := true, recurses := true, named := ["internal/bytealg.MaxLen", "unicode/utf8.first", "unicode/utf8.acceptRanges"], apart := false, laid := [("unicode/utf8.acceptRanges", laid_unicode_utf8_acceptRanges), ("unicode/utf8.first", laid_unicode_utf8_first)] }
def RecipeChecksSaid : Prop := recipeChecksRow.holds Tryz.pinned (OpenSpec.ofChange recipeChecksSpec)

/-- ITS FALSE NEIGHBOUR: 'it returns false'. Refute it at one input. -/
def recipeChecksWrong : ChangeSpec := { name := "recipeChecks", fn := fun _ => fun
  | [d] => { results := [.lit (.bool false)], args := [d] }
  | _ => none }
def RecipeChecksWrongFalsely : Prop := recipeChecksRow.holds Tryz.pinned (OpenSpec.ofChange recipeChecksWrong)

/-- 'licitlaw14.RecipePrints': WHATEVER THE INPUT: true; the input reads as it did. -/
def recipePrintsSpec : ChangeSpec := { name := "recipePrints", fn := fun _ => fun
  | [d] => { results := [.lit (.bool true)], args := [d] }
  | _ => none }
def recipePrintsRow : OpenClaim := { program := "ytdodjhiofpiaaaagreatdoor", sum := "a9d356ab40586e85b8c2133620c47b852497bf589d9f04df291a6b239b0a573d", func := "licit/licitlaw14.RecipePrints", spec := "recipePrints", inPlace := ["internal/bytealg.CountString", "internal/bytealg.IndexByteString", "internal/bytealg.IndexString", "internal/abi.NoEscape", "internal/bytealg.MakeNoZero"], unfollowed := true, recurses := true, named := ["internal/bytealg.MaxLen", "unicode/utf8.first", "unicode/utf8.acceptRanges"], apart := false, laid := [("unicode/utf8.acceptRanges", laid_unicode_utf8_acceptRanges), ("unicode/utf8.first", laid_unicode_utf8_first)] }
def RecipePrintsSaid : Prop := recipePrintsRow.holds Tryz.pinned (OpenSpec.ofChange recipePrintsSpec)

/-- ITS FALSE NEIGHBOUR: 'it returns false'. Refute it at one input. -/
def recipePrintsWrong : ChangeSpec := { name := "recipePrints", fn := fun _ => fun
  | [d] => { results := [.lit (.bool false)], args := [d] }
  | _ => none }
def RecipePrintsWrongFalsely : Prop := recipePrintsRow.holds Tryz.pinned (OpenSpec.ofChange recipePrintsWrong)

/-- 'licitlaw14.RecipeWords': WHATEVER THE INPUT: true; the input reads as it did. -/
def recipeWordsSpec : ChangeSpec := { name := "recipeWords", fn := fun _ => fun
  | [d] => { results := [.lit (.bool true)], args := [d] }
  | _ => none }
def recipeWordsRow : OpenClaim := { program := "ytdodjhiofpiaaaagreatdoor", sum := "a9d356ab40586e85b8c2133620c47b852497bf589d9f04df291a6b239b0a573d", func := "licit/licitlaw14.RecipeWords", spec := "recipeWords", inPlace := ["internal/bytealg.CountString", "internal/bytealg.IndexByteString", "internal/bytealg.IndexString", "internal/abi.NoEscape", "internal/bytealg.MakeNoZero"], unfollowed := true, recurses := true, named := ["internal/bytealg.MaxLen", "unicode/utf8.first", "unicode/utf8.acceptRanges"], apart := false, laid := [("unicode/utf8.acceptRanges", laid_unicode_utf8_acceptRanges), ("unicode/utf8.first", laid_unicode_utf8_first)] }
def RecipeWordsSaid : Prop := recipeWordsRow.holds Tryz.pinned (OpenSpec.ofChange recipeWordsSpec)

/-- ITS FALSE NEIGHBOUR: 'it returns false'. Refute it at one input. -/
def recipeWordsWrong : ChangeSpec := { name := "recipeWords", fn := fun _ => fun
  | [d] => { results := [.lit (.bool false)], args := [d] }
  | _ => none }
def RecipeWordsWrongFalsely : Prop := recipeWordsRow.holds Tryz.pinned (OpenSpec.ofChange recipeWordsWrong)

/- THE SECOND FORM. 'bulk': how many values and letters a reading holds, each counted each time it is reached (what is shared counts as often as it is met; a slice's spare places count too). A statement '..UptoSaid' is the law's where the arguments, and the package variables that the reading takes, are together of bulk at most 1048576: NARROWER than '..Said'. Prove '..Said' where nothing that the law and all that it calls make is longer than what came in: it says more and counts as full. Else prove '..UptoSaid'. A law counts once. -/
mutual
def uptoBulk {H : Type} : DataW H → Nat
  | .lit (.string bytes) => bytes.length + 1
  | .lit _ => 1
  | .nil => 1
  | .ptr d => uptoBulk d + 1
  | .slice elems spare => uptoBulkAll elems + uptoBulkAll spare + 1
  | .agg parts => uptoBulkAll parts + 1
  | .iface _ d => uptoBulk d + 1
  | .map entries => uptoBulkEntries entries + 1
  | .held _ => 1
def uptoBulkAll {H : Type} : List (DataW H) → Nat
  | [] => 0
  | d :: r => uptoBulk d + uptoBulkAll r
def uptoBulkEntries {H : Type} : List (Lit × DataW H) → Nat
  | [] => 0
  | x :: r => uptoBulkEntry x + uptoBulkEntries r
def uptoBulkEntry {H : Type} : Lit × DataW H → Nat
  | (.string bytes, d) => bytes.length + uptoBulk d + 1
  | (_, d) => uptoBulk d + 1
 end
def uptoSmall : (H : Type) → List (DataW H) → Bool := fun _ ds => decide (uptoBulkAll ds ≤ 1048576)
def OpenSpec.upto (s : _root_.Go.ChangeSpec) : _root_.Go.OpenSpec := { _root_.Go.OpenSpec.ofChange s with cond := some uptoSmall }

/-- 'licitlaw14.RecipeParses', WHERE WHAT IT READS IS OF BULK AT MOST 1048576: true; the input reads as it did. -/
def recipeParsesUptoRow : OpenClaim := { program := "ytdodjhiofpiaaaagreatdoor", sum := "a9d356ab40586e85b8c2133620c47b852497bf589d9f04df291a6b239b0a573d", func := "licit/licitlaw14.RecipeParses", spec := "recipeParses", inPlace := ["internal/bytealg.CountString", "internal/bytealg.IndexByteString", "internal/bytealg.IndexString", "internal/abi.NoEscape", "internal/bytealg.MakeNoZero"], unfollowed := true, recurses := true, named := ["internal/bytealg.MaxLen", "unicode/utf8.first", "unicode/utf8.acceptRanges"], apart := false, laid := [("unicode/utf8.acceptRanges", laid_unicode_utf8_acceptRanges), ("unicode/utf8.first", laid_unicode_utf8_first)], narrowed := true }
def RecipeParsesUptoSaid : Prop := recipeParsesUptoRow.holds Tryz.pinned (OpenSpec.upto recipeParsesSpec)

/-- 'licitlaw14.RecipeChecks', WHERE WHAT IT READS IS OF BULK AT MOST 1048576: true; the input reads as it did. -/
def recipeChecksUptoRow : OpenClaim := { program := "ytdodjhiofpiaaaagreatdoor", sum := "a9d356ab40586e85b8c2133620c47b852497bf589d9f04df291a6b239b0a573d", func := "licit/licitlaw14.RecipeChecks", spec := "recipeChecks", inPlace := ["internal/bytealg.CountString", "internal/bytealg.IndexByteString", "internal/bytealg.IndexString", "internal/abi.NoEscape", "internal/bytealg.MakeNoZero"], unfollowed := true, recurses := true, named := ["internal/bytealg.MaxLen", "unicode/utf8.first", "unicode/utf8.acceptRanges"], apart := false, laid := [("unicode/utf8.acceptRanges", laid_unicode_utf8_acceptRanges), ("unicode/utf8.first", laid_unicode_utf8_first)], narrowed := true }
def RecipeChecksUptoSaid : Prop := recipeChecksUptoRow.holds Tryz.pinned (OpenSpec.upto recipeChecksSpec)

/-- 'licitlaw14.RecipePrints', WHERE WHAT IT READS IS OF BULK AT MOST 1048576: true; the input reads as it did. -/
def recipePrintsUptoRow : OpenClaim := { program := "ytdodjhiofpiaaaagreatdoor", sum := "a9d356ab40586e85b8c2133620c47b852497bf589d9f04df291a6b239b0a573d", func := "licit/licitlaw14.RecipePrints", spec := "recipePrints", inPlace := ["internal/bytealg.CountString", "internal/bytealg.IndexByteString", "internal/bytealg.IndexString", "internal/abi.NoEscape", "internal/bytealg.MakeNoZero"], unfollowed := true, recurses := true, named := ["internal/bytealg.MaxLen", "unicode/utf8.first", "unicode/utf8.acceptRanges"], apart := false, laid := [("unicode/utf8.acceptRanges", laid_unicode_utf8_acceptRanges), ("unicode/utf8.first", laid_unicode_utf8_first)], narrowed := true }
def RecipePrintsUptoSaid : Prop := recipePrintsUptoRow.holds Tryz.pinned (OpenSpec.upto recipePrintsSpec)

/-- 'licitlaw14.RecipeWords', WHERE WHAT IT READS IS OF BULK AT MOST 1048576: true; the input reads as it did. -/
def recipeWordsUptoRow : OpenClaim := { program := "ytdodjhiofpiaaaagreatdoor", sum := "a9d356ab40586e85b8c2133620c47b852497bf589d9f04df291a6b239b0a573d", func := "licit/licitlaw14.RecipeWords", spec := "recipeWords", inPlace := ["internal/bytealg.CountString", "internal/bytealg.IndexByteString", "internal/bytealg.IndexString", "internal/abi.NoEscape", "internal/bytealg.MakeNoZero"], unfollowed := true, recurses := true, named := ["internal/bytealg.MaxLen", "unicode/utf8.first", "unicode/utf8.acceptRanges"], apart := false, laid := [("unicode/utf8.acceptRanges", laid_unicode_utf8_acceptRanges), ("unicode/utf8.first", laid_unicode_utf8_first)], narrowed := true }
def RecipeWordsUptoSaid : Prop := recipeWordsUptoRow.holds Tryz.pinned (OpenSpec.upto recipeWordsSpec)

end Rows
end Go.Proofs.YtdodjhiofpiaaaaGreatDoor
