/-
  NARROWER THAN 'FOR EVERY INPUT', by the rows' own cells (each row's printed sentence says how): LicexprParses: laid · LicexprForms: loops, laid · LicexprReturns: loops, laid · LicexprBinds: laid · LicexprNests: laid · LicexprBlanks: loops, laid.
  DERIVED. THE GIVEN ROWS OF THIS SEAT. 6 by the template 'for every input the law returns true; each argument reads behind the call as it read before'; 0 by the template 'total and deterministic' (their statements: YtabenhkajabaeaaDoorTotals.lean).
  GIVEN WITH THE SEED: the statements are not yours to turn. If you find one false, say at which input.
  Laid BY PROGRAM, IN A SANDBOX (cutbox-rows.mjs): the forced cells as the released guide's own fill.sh prints them over the translation 4789fabac8556ef4… (all of the seat's roots in one cut). By AI agents, Wed Nov 11 2026. No macro, syntax, notation, axiom, sorry.
-/
import Derived.Test.YtabenhkajabaeaaDoorChecked
import GoSem.PinnedTables
import GoSem.Claim
import GoSem.ClaimJoined
import GoSem.ClaimMapViews
import Derived.JoinedTies
import Derived.KernelRfl
namespace Go.Proofs.YtabenhkajabaeaaDoor
/- THE CELL 'sum', in the pinned program and in every row, IS THE sha256 OF THE DUMP (.gsa) THAT YtabenhkajabaeaaDoorProg.lean LOADS. Nothing in Lean hashes anything: it is a label: what it is worth is what the hold of that sum in a sandbox is worth. -/
noncomputable def Tryd.pinned : Pinned := { name := "ytabenhkajabaeaadoor", sum := "4789fabac8556ef450738a65d7b06ea8caab67863644e775d6dcdd974a75ee39", checked := Tryd.checked }
namespace Rows
def none {H : Type} : Left H := { results := [], args := [] }

/- WHAT THE LISTED PACKAGE-LEVEL VARIABLES READ AS WHEN THE CALL BEGINS. Each datum BY PROGRAM (the guide's laid-datum.mjs) off the statement by which the dump's own 'gosem.cut.vars' lays the variable. In a bare row this is a premise. The card (YtabenhkajabaeaaDoorCards.lean) ties it to the program's text. -/
def laid_unicode_utf8_acceptRanges {H : Type} : DataW H := .agg [.agg [.lit (.int .u8 128), .lit (.int .u8 191)], .agg [.lit (.int .u8 160), .lit (.int .u8 191)], .agg [.lit (.int .u8 128), .lit (.int .u8 159)], .agg [.lit (.int .u8 144), .lit (.int .u8 191)], .agg [.lit (.int .u8 128), .lit (.int .u8 143)], .agg [.lit (.int .u8 0), .lit (.int .u8 0)], .agg [.lit (.int .u8 0), .lit (.int .u8 0)], .agg [.lit (.int .u8 0), .lit (.int .u8 0)], .agg [.lit (.int .u8 0), .lit (.int .u8 0)], .agg [.lit (.int .u8 0), .lit (.int .u8 0)], .agg [.lit (.int .u8 0), .lit (.int .u8 0)], .agg [.lit (.int .u8 0), .lit (.int .u8 0)], .agg [.lit (.int .u8 0), .lit (.int .u8 0)], .agg [.lit (.int .u8 0), .lit (.int .u8 0)], .agg [.lit (.int .u8 0), .lit (.int .u8 0)], .agg [.lit (.int .u8 0), .lit (.int .u8 0)]]
/-- One of Go's own tables, pinned by name: the form's constant. -/
def laid_unicode_utf8_first : DataW Unit := Go.Pinned.utf8First

/-- 'licitlaw32.LicexprParses': WHATEVER THE INPUT: true; the input reads as it did. -/
def licexprParsesSpec : ChangeSpec := { name := "licexprParses", fn := fun _ => fun
  | [d] => { results := [.lit (.bool true)], args := [d] }
  | _ => none }
def licexprParsesRow : OpenClaim := { program := "ytabenhkajabaeaadoor", sum := "4789fabac8556ef450738a65d7b06ea8caab67863644e775d6dcdd974a75ee39", func := "licit/licitlaw32.LicexprParses", spec := "licexprParses", inPlace := ["internal/bytealg.IndexByteString", "internal/bytealg.IndexString", "internal/abi.NoEscape", "internal/bytealg.MakeNoZero"], unfollowed := true, recurses := true, named := ["unicode/utf8.first", "unicode/utf8.acceptRanges", "internal/bytealg.MaxLen"], apart := false, laid := [("unicode/utf8.acceptRanges", laid_unicode_utf8_acceptRanges), ("unicode/utf8.first", laid_unicode_utf8_first)] }
def LicexprParsesSaid : Prop := licexprParsesRow.holds Tryd.pinned (OpenSpec.ofChange licexprParsesSpec)

/-- ITS FALSE NEIGHBOUR: 'it returns false'. Refute it at one input. -/
def licexprParsesWrong : ChangeSpec := { name := "licexprParses", fn := fun _ => fun
  | [d] => { results := [.lit (.bool false)], args := [d] }
  | _ => none }
def LicexprParsesWrongFalsely : Prop := licexprParsesRow.holds Tryd.pinned (OpenSpec.ofChange licexprParsesWrong)

/-- 'licitlaw32.LicexprForms': WHATEVER THE INPUT: true; the input reads as it did. -/
def licexprFormsSpec : ChangeSpec := { name := "licexprForms", fn := fun _ => fun
  | [d1, d2] => { results := [.lit (.bool true)], args := [d1, d2] }
  | _ => none }
def licexprFormsRow : OpenClaim := { program := "ytabenhkajabaeaadoor", sum := "4789fabac8556ef450738a65d7b06ea8caab67863644e775d6dcdd974a75ee39", func := "licit/licitlaw32.LicexprForms", spec := "licexprForms", inPlace := ["internal/bytealg.IndexByteString", "internal/bytealg.IndexString", "internal/abi.NoEscape", "internal/bytealg.MakeNoZero"], unfollowed := true, recurses := true, named := ["unicode/utf8.first", "unicode/utf8.acceptRanges", "internal/bytealg.MaxLen"], loops := true, apart := false, laid := [("unicode/utf8.acceptRanges", laid_unicode_utf8_acceptRanges), ("unicode/utf8.first", laid_unicode_utf8_first)] }
def LicexprFormsSaid : Prop := licexprFormsRow.holds Tryd.pinned (OpenSpec.ofChange licexprFormsSpec)

/-- ITS FALSE NEIGHBOUR: 'it returns false'. Refute it at one input. -/
def licexprFormsWrong : ChangeSpec := { name := "licexprForms", fn := fun _ => fun
  | [d1, d2] => { results := [.lit (.bool false)], args := [d1, d2] }
  | _ => none }
def LicexprFormsWrongFalsely : Prop := licexprFormsRow.holds Tryd.pinned (OpenSpec.ofChange licexprFormsWrong)

/-- 'licitlaw32.LicexprReturns': WHATEVER THE INPUT: true; the input reads as it did. -/
def licexprReturnsSpec : ChangeSpec := { name := "licexprReturns", fn := fun _ => fun
  | [d1, d2] => { results := [.lit (.bool true)], args := [d1, d2] }
  | _ => none }
def licexprReturnsRow : OpenClaim := { program := "ytabenhkajabaeaadoor", sum := "4789fabac8556ef450738a65d7b06ea8caab67863644e775d6dcdd974a75ee39", func := "licit/licitlaw32.LicexprReturns", spec := "licexprReturns", inPlace := ["internal/bytealg.IndexByteString", "internal/bytealg.IndexString", "internal/abi.NoEscape", "internal/bytealg.MakeNoZero"], unfollowed := true, recurses := true, named := ["unicode/utf8.first", "unicode/utf8.acceptRanges", "internal/bytealg.MaxLen"], loops := true, apart := false, laid := [("unicode/utf8.acceptRanges", laid_unicode_utf8_acceptRanges), ("unicode/utf8.first", laid_unicode_utf8_first)] }
def LicexprReturnsSaid : Prop := licexprReturnsRow.holds Tryd.pinned (OpenSpec.ofChange licexprReturnsSpec)

/-- ITS FALSE NEIGHBOUR: 'it returns false'. Refute it at one input. -/
def licexprReturnsWrong : ChangeSpec := { name := "licexprReturns", fn := fun _ => fun
  | [d1, d2] => { results := [.lit (.bool false)], args := [d1, d2] }
  | _ => none }
def LicexprReturnsWrongFalsely : Prop := licexprReturnsRow.holds Tryd.pinned (OpenSpec.ofChange licexprReturnsWrong)

/-- 'licitlaw32.LicexprBinds': WHATEVER THE INPUT: true; the input reads as it did. -/
def licexprBindsSpec : ChangeSpec := { name := "licexprBinds", fn := fun _ => fun
  | [d] => { results := [.lit (.bool true)], args := [d] }
  | _ => none }
def licexprBindsRow : OpenClaim := { program := "ytabenhkajabaeaadoor", sum := "4789fabac8556ef450738a65d7b06ea8caab67863644e775d6dcdd974a75ee39", func := "licit/licitlaw32.LicexprBinds", spec := "licexprBinds", inPlace := ["internal/bytealg.IndexByteString", "internal/bytealg.IndexString", "internal/abi.NoEscape", "internal/bytealg.MakeNoZero"], unfollowed := true, recurses := true, named := ["unicode/utf8.first", "unicode/utf8.acceptRanges", "internal/bytealg.MaxLen"], apart := false, laid := [("unicode/utf8.acceptRanges", laid_unicode_utf8_acceptRanges), ("unicode/utf8.first", laid_unicode_utf8_first)] }
def LicexprBindsSaid : Prop := licexprBindsRow.holds Tryd.pinned (OpenSpec.ofChange licexprBindsSpec)

/-- ITS FALSE NEIGHBOUR: 'it returns false'. Refute it at one input. -/
def licexprBindsWrong : ChangeSpec := { name := "licexprBinds", fn := fun _ => fun
  | [d] => { results := [.lit (.bool false)], args := [d] }
  | _ => none }
def LicexprBindsWrongFalsely : Prop := licexprBindsRow.holds Tryd.pinned (OpenSpec.ofChange licexprBindsWrong)

/-- 'licitlaw32.LicexprNests': WHATEVER THE INPUT: true; the input reads as it did. -/
def licexprNestsSpec : ChangeSpec := { name := "licexprNests", fn := fun _ => fun
  | [d] => { results := [.lit (.bool true)], args := [d] }
  | _ => none }
def licexprNestsRow : OpenClaim := { program := "ytabenhkajabaeaadoor", sum := "4789fabac8556ef450738a65d7b06ea8caab67863644e775d6dcdd974a75ee39", func := "licit/licitlaw32.LicexprNests", spec := "licexprNests", inPlace := ["internal/bytealg.IndexByteString", "internal/bytealg.IndexString", "internal/abi.NoEscape", "internal/bytealg.MakeNoZero"], unfollowed := true, recurses := true, named := ["unicode/utf8.first", "unicode/utf8.acceptRanges", "internal/bytealg.MaxLen"], apart := false, laid := [("unicode/utf8.acceptRanges", laid_unicode_utf8_acceptRanges), ("unicode/utf8.first", laid_unicode_utf8_first)] }
def LicexprNestsSaid : Prop := licexprNestsRow.holds Tryd.pinned (OpenSpec.ofChange licexprNestsSpec)

/-- ITS FALSE NEIGHBOUR: 'it returns false'. Refute it at one input. -/
def licexprNestsWrong : ChangeSpec := { name := "licexprNests", fn := fun _ => fun
  | [d] => { results := [.lit (.bool false)], args := [d] }
  | _ => none }
def LicexprNestsWrongFalsely : Prop := licexprNestsRow.holds Tryd.pinned (OpenSpec.ofChange licexprNestsWrong)

/-- 'licitlaw32.LicexprBlanks': WHATEVER THE INPUT: true; the input reads as it did. -/
def licexprBlanksSpec : ChangeSpec := { name := "licexprBlanks", fn := fun _ => fun
  | [d1, d2] => { results := [.lit (.bool true)], args := [d1, d2] }
  | _ => none }
def licexprBlanksRow : OpenClaim := { program := "ytabenhkajabaeaadoor", sum := "4789fabac8556ef450738a65d7b06ea8caab67863644e775d6dcdd974a75ee39", func := "licit/licitlaw32.LicexprBlanks", spec := "licexprBlanks", inPlace := ["internal/bytealg.IndexByteString", "internal/bytealg.IndexString", "internal/abi.NoEscape", "internal/bytealg.MakeNoZero", "internal/bytealg.CountString"], unfollowed := true, recurses := true, named := ["unicode/utf8.first", "unicode/utf8.acceptRanges", "internal/bytealg.MaxLen"], loops := true, apart := false, laid := [("unicode/utf8.acceptRanges", laid_unicode_utf8_acceptRanges), ("unicode/utf8.first", laid_unicode_utf8_first)] }
def LicexprBlanksSaid : Prop := licexprBlanksRow.holds Tryd.pinned (OpenSpec.ofChange licexprBlanksSpec)

/-- ITS FALSE NEIGHBOUR: 'it returns false'. Refute it at one input. -/
def licexprBlanksWrong : ChangeSpec := { name := "licexprBlanks", fn := fun _ => fun
  | [d1, d2] => { results := [.lit (.bool false)], args := [d1, d2] }
  | _ => none }
def LicexprBlanksWrongFalsely : Prop := licexprBlanksRow.holds Tryd.pinned (OpenSpec.ofChange licexprBlanksWrong)

/- THE SECOND FORM. 'bulk': how many values and letters a reading holds, each counted each time it is reached (what is shared counts as often as it is met; a slice's spare places count too). A statement '..UptoSaid' is the law's where the arguments, and the package variables that the reading takes, are together of bulk at most 1048576: NARROWER than '..Said'. Prove '..Said' where nothing that the law and all that it calls make is longer than what came in: it says more and counts as full. Else prove '..UptoSaid'. A law counts once. -/
mutual
def uptoBulk {H : Type} : DataW H → Nat
  | .lit (.string bytes) => bytes.length + 1
  | .lit _ => 1
  | .nil => 1
  | .ptr d => uptoBulk d + 1
  | .slice elems spare => uptoBulkAll elems + uptoBulkAll spare + 1
  | .agg parts => uptoBulkAll parts + 1
  | .iface _ d => uptoBulk d + 1
  | .map entries => uptoBulkEntries entries + 1
  | .held _ => 1
def uptoBulkAll {H : Type} : List (DataW H) → Nat
  | [] => 0
  | d :: r => uptoBulk d + uptoBulkAll r
def uptoBulkEntries {H : Type} : List (Lit × DataW H) → Nat
  | [] => 0
  | x :: r => uptoBulkEntry x + uptoBulkEntries r
def uptoBulkEntry {H : Type} : Lit × DataW H → Nat
  | (.string bytes, d) => bytes.length + uptoBulk d + 1
  | (_, d) => uptoBulk d + 1
 end
def uptoSmall : (H : Type) → List (DataW H) → Bool := fun _ ds => decide (uptoBulkAll ds ≤ 1048576)
def OpenSpec.upto (s : _root_.Go.ChangeSpec) : _root_.Go.OpenSpec := { _root_.Go.OpenSpec.ofChange s with cond := some uptoSmall }

/-- 'licitlaw32.LicexprParses', WHERE WHAT IT READS IS OF BULK AT MOST 1048576: true; the input reads as it did. -/
def licexprParsesUptoRow : OpenClaim := { program := "ytabenhkajabaeaadoor", sum := "4789fabac8556ef450738a65d7b06ea8caab67863644e775d6dcdd974a75ee39", func := "licit/licitlaw32.LicexprParses", spec := "licexprParses", inPlace := ["internal/bytealg.IndexByteString", "internal/bytealg.IndexString", "internal/abi.NoEscape", "internal/bytealg.MakeNoZero"], unfollowed := true, recurses := true, named := ["unicode/utf8.first", "unicode/utf8.acceptRanges", "internal/bytealg.MaxLen"], apart := false, laid := [("unicode/utf8.acceptRanges", laid_unicode_utf8_acceptRanges), ("unicode/utf8.first", laid_unicode_utf8_first)], narrowed := true }
def LicexprParsesUptoSaid : Prop := licexprParsesUptoRow.holds Tryd.pinned (OpenSpec.upto licexprParsesSpec)

/-- 'licitlaw32.LicexprForms', WHERE WHAT IT READS IS OF BULK AT MOST 1048576: true; the input reads as it did. -/
def licexprFormsUptoRow : OpenClaim := { program := "ytabenhkajabaeaadoor", sum := "4789fabac8556ef450738a65d7b06ea8caab67863644e775d6dcdd974a75ee39", func := "licit/licitlaw32.LicexprForms", spec := "licexprForms", inPlace := ["internal/bytealg.IndexByteString", "internal/bytealg.IndexString", "internal/abi.NoEscape", "internal/bytealg.MakeNoZero"], unfollowed := true, recurses := true, named := ["unicode/utf8.first", "unicode/utf8.acceptRanges", "internal/bytealg.MaxLen"], loops := true, apart := false, laid := [("unicode/utf8.acceptRanges", laid_unicode_utf8_acceptRanges), ("unicode/utf8.first", laid_unicode_utf8_first)], narrowed := true }
def LicexprFormsUptoSaid : Prop := licexprFormsUptoRow.holds Tryd.pinned (OpenSpec.upto licexprFormsSpec)

/-- 'licitlaw32.LicexprReturns', WHERE WHAT IT READS IS OF BULK AT MOST 1048576: true; the input reads as it did. -/
def licexprReturnsUptoRow : OpenClaim := { program := "ytabenhkajabaeaadoor", sum := "4789fabac8556ef450738a65d7b06ea8caab67863644e775d6dcdd974a75ee39", func := "licit/licitlaw32.LicexprReturns", spec := "licexprReturns", inPlace := ["internal/bytealg.IndexByteString", "internal/bytealg.IndexString", "internal/abi.NoEscape", "internal/bytealg.MakeNoZero"], unfollowed := true, recurses := true, named := ["unicode/utf8.first", "unicode/utf8.acceptRanges", "internal/bytealg.MaxLen"], loops := true, apart := false, laid := [("unicode/utf8.acceptRanges", laid_unicode_utf8_acceptRanges), ("unicode/utf8.first", laid_unicode_utf8_first)], narrowed := true }
def LicexprReturnsUptoSaid : Prop := licexprReturnsUptoRow.holds Tryd.pinned (OpenSpec.upto licexprReturnsSpec)

/-- 'licitlaw32.LicexprBinds', WHERE WHAT IT READS IS OF BULK AT MOST 1048576: true; the input reads as it did. -/
def licexprBindsUptoRow : OpenClaim := { program := "ytabenhkajabaeaadoor", sum := "4789fabac8556ef450738a65d7b06ea8caab67863644e775d6dcdd974a75ee39", func := "licit/licitlaw32.LicexprBinds", spec := "licexprBinds", inPlace := ["internal/bytealg.IndexByteString", "internal/bytealg.IndexString", "internal/abi.NoEscape", "internal/bytealg.MakeNoZero"], unfollowed := true, recurses := true, named := ["unicode/utf8.first", "unicode/utf8.acceptRanges", "internal/bytealg.MaxLen"], apart := false, laid := [("unicode/utf8.acceptRanges", laid_unicode_utf8_acceptRanges), ("unicode/utf8.first", laid_unicode_utf8_first)], narrowed := true }
def LicexprBindsUptoSaid : Prop := licexprBindsUptoRow.holds Tryd.pinned (OpenSpec.upto licexprBindsSpec)

/-- 'licitlaw32.LicexprNests', WHERE WHAT IT READS IS OF BULK AT MOST 1048576: true; the input reads as it did. -/
def licexprNestsUptoRow : OpenClaim := { program := "ytabenhkajabaeaadoor", sum := "4789fabac8556ef450738a65d7b06ea8caab67863644e775d6dcdd974a75ee39", func := "licit/licitlaw32.LicexprNests", spec := "licexprNests", inPlace := ["internal/bytealg.IndexByteString", "internal/bytealg.IndexString", "internal/abi.NoEscape", "internal/bytealg.MakeNoZero"], unfollowed := true, recurses := true, named := ["unicode/utf8.first", "unicode/utf8.acceptRanges", "internal/bytealg.MaxLen"], apart := false, laid := [("unicode/utf8.acceptRanges", laid_unicode_utf8_acceptRanges), ("unicode/utf8.first", laid_unicode_utf8_first)], narrowed := true }
def LicexprNestsUptoSaid : Prop := licexprNestsUptoRow.holds Tryd.pinned (OpenSpec.upto licexprNestsSpec)

/-- 'licitlaw32.LicexprBlanks', WHERE WHAT IT READS IS OF BULK AT MOST 1048576: true; the input reads as it did. -/
def licexprBlanksUptoRow : OpenClaim := { program := "ytabenhkajabaeaadoor", sum := "4789fabac8556ef450738a65d7b06ea8caab67863644e775d6dcdd974a75ee39", func := "licit/licitlaw32.LicexprBlanks", spec := "licexprBlanks", inPlace := ["internal/bytealg.IndexByteString", "internal/bytealg.IndexString", "internal/abi.NoEscape", "internal/bytealg.MakeNoZero", "internal/bytealg.CountString"], unfollowed := true, recurses := true, named := ["unicode/utf8.first", "unicode/utf8.acceptRanges", "internal/bytealg.MaxLen"], loops := true, apart := false, laid := [("unicode/utf8.acceptRanges", laid_unicode_utf8_acceptRanges), ("unicode/utf8.first", laid_unicode_utf8_first)], narrowed := true }
def LicexprBlanksUptoSaid : Prop := licexprBlanksUptoRow.holds Tryd.pinned (OpenSpec.upto licexprBlanksSpec)

end Rows
end Go.Proofs.YtabenhkajabaeaaDoor
