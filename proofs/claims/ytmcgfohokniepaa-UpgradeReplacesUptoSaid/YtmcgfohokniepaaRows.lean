/-
  No cell of these rows narrows 'for every input' (looked for: loops, veiled, ifaces, maps, wideKeys, modest, calm, conditions, laid).
  DERIVED. THE GIVEN ROWS OF THIS SEAT. 8 by the template 'for every input the law returns true; each argument reads behind the call as it read before'; 0 by the template 'total and deterministic' (their statements: YtmcgfohokniepaaTotals.lean).
  GIVEN WITH THE SEED: the statements are not yours to turn. If you find one false, say at which input.
  Laid BY PROGRAM, IN A SANDBOX (cutbox-rows.mjs): the forced cells as the released guide's own fill.sh prints them over the translation 7a0d76bdd9df6f47… (all of the seat's roots in one cut). By AI agents, Wed Nov 11 2026. No macro, syntax, notation, axiom, sorry.
-/
import Derived.Test.YtmcgfohokniepaaChecked
import GoSem.Claim
import GoSem.ClaimJoined
import GoSem.ClaimMapViews
import Derived.JoinedTies
import Derived.KernelRfl
namespace Go.Proofs.Ytmcgfohokniepaa
/- THE CELL 'sum', in the pinned program and in every row, IS THE sha256 OF THE DUMP (.gsa) THAT YtmcgfohokniepaaProg.lean LOADS. Nothing in Lean hashes anything: it is a label: what it is worth is what the hold of that sum in a sandbox is worth. -/
noncomputable def Try.pinned : Pinned := { name := "ytmcgfohokniepaa", sum := "7a0d76bdd9df6f47c6012bcfc7a1786158380c47265941abcb6a6015e201fb80", checked := Try.checked }
namespace Rows
def none {H : Type} : Left H := { results := [], args := [] }

/-- 'licitlaw51.UpgradePackage': WHATEVER THE INPUT: true; the input reads as it did. -/
def upgradePackageSpec : ChangeSpec := { name := "upgradePackage", fn := fun _ => fun
  | [d] => { results := [.lit (.bool true)], args := [d] }
  | _ => none }
def upgradePackageRow : OpenClaim := { program := "ytmcgfohokniepaa", sum := "7a0d76bdd9df6f47c6012bcfc7a1786158380c47265941abcb6a6015e201fb80", func := "licit/licitlaw51.UpgradePackage", spec := "upgradePackage", inPlace := ["internal/bytealg.IndexByteString", "internal/bytealg.IndexString"], unfollowed := true, recurses := true, named := ["internal/bytealg.MaxLen"], plainKeys := false, apart := false }
def UpgradePackageSaid : Prop := upgradePackageRow.holds Try.pinned (OpenSpec.ofChange upgradePackageSpec)

/-- ITS FALSE NEIGHBOUR: 'it returns false'. Refute it at one input. -/
def upgradePackageWrong : ChangeSpec := { name := "upgradePackage", fn := fun _ => fun
  | [d] => { results := [.lit (.bool false)], args := [d] }
  | _ => none }
def UpgradePackageWrongFalsely : Prop := upgradePackageRow.holds Try.pinned (OpenSpec.ofChange upgradePackageWrong)

/-- 'licitlaw51.UpgradeAny': WHATEVER THE INPUT: true; the input reads as it did. -/
def upgradeAnySpec : ChangeSpec := { name := "upgradeAny", fn := fun _ => fun
  | [d1, d2] => { results := [.lit (.bool true)], args := [d1, d2] }
  | _ => none }
def upgradeAnyRow : OpenClaim := { program := "ytmcgfohokniepaa", sum := "7a0d76bdd9df6f47c6012bcfc7a1786158380c47265941abcb6a6015e201fb80", func := "licit/licitlaw51.UpgradeAny", spec := "upgradeAny", inPlace := ["internal/bytealg.IndexByteString", "internal/bytealg.IndexString"], unfollowed := true, recurses := true, named := ["internal/bytealg.MaxLen"], plainKeys := false, apart := false }
def UpgradeAnySaid : Prop := upgradeAnyRow.holds Try.pinned (OpenSpec.ofChange upgradeAnySpec)

/-- ITS FALSE NEIGHBOUR: 'it returns false'. Refute it at one input. -/
def upgradeAnyWrong : ChangeSpec := { name := "upgradeAny", fn := fun _ => fun
  | [d1, d2] => { results := [.lit (.bool false)], args := [d1, d2] }
  | _ => none }
def UpgradeAnyWrongFalsely : Prop := upgradeAnyRow.holds Try.pinned (OpenSpec.ofChange upgradeAnyWrong)

/-- 'licitlaw51.UpgradeStatus': WHATEVER THE INPUT: true; the input reads as it did. -/
def upgradeStatusSpec : ChangeSpec := { name := "upgradeStatus", fn := fun _ => fun
  | [d1, d2] => { results := [.lit (.bool true)], args := [d1, d2] }
  | _ => none }
def upgradeStatusRow : OpenClaim := { program := "ytmcgfohokniepaa", sum := "7a0d76bdd9df6f47c6012bcfc7a1786158380c47265941abcb6a6015e201fb80", func := "licit/licitlaw51.UpgradeStatus", spec := "upgradeStatus", inPlace := ["internal/bytealg.IndexByteString", "internal/bytealg.IndexString"], unfollowed := true, recurses := true, named := ["internal/bytealg.MaxLen"], plainKeys := false, apart := false }
def UpgradeStatusSaid : Prop := upgradeStatusRow.holds Try.pinned (OpenSpec.ofChange upgradeStatusSpec)

/-- ITS FALSE NEIGHBOUR: 'it returns false'. Refute it at one input. -/
def upgradeStatusWrong : ChangeSpec := { name := "upgradeStatus", fn := fun _ => fun
  | [d1, d2] => { results := [.lit (.bool false)], args := [d1, d2] }
  | _ => none }
def UpgradeStatusWrongFalsely : Prop := upgradeStatusRow.holds Try.pinned (OpenSpec.ofChange upgradeStatusWrong)

/-- 'licitlaw51.UpgradeFallen': WHATEVER THE INPUT: true; the input reads as it did. -/
def upgradeFallenSpec : ChangeSpec := { name := "upgradeFallen", fn := fun _ => fun
  | [d1, d2, d3] => { results := [.lit (.bool true)], args := [d1, d2, d3] }
  | _ => none }
def upgradeFallenRow : OpenClaim := { program := "ytmcgfohokniepaa", sum := "7a0d76bdd9df6f47c6012bcfc7a1786158380c47265941abcb6a6015e201fb80", func := "licit/licitlaw51.UpgradeFallen", spec := "upgradeFallen", inPlace := ["internal/bytealg.IndexByteString", "internal/bytealg.IndexString"], unfollowed := true, recurses := true, named := ["internal/bytealg.MaxLen"], plainKeys := false, apart := false }
def UpgradeFallenSaid : Prop := upgradeFallenRow.holds Try.pinned (OpenSpec.ofChange upgradeFallenSpec)

/-- ITS FALSE NEIGHBOUR: 'it returns false'. Refute it at one input. -/
def upgradeFallenWrong : ChangeSpec := { name := "upgradeFallen", fn := fun _ => fun
  | [d1, d2, d3] => { results := [.lit (.bool false)], args := [d1, d2, d3] }
  | _ => none }
def UpgradeFallenWrongFalsely : Prop := upgradeFallenRow.holds Try.pinned (OpenSpec.ofChange upgradeFallenWrong)

/-- 'licitlaw51.UpgradeExact': WHATEVER THE INPUT: true; the input reads as it did. -/
def upgradeExactSpec : ChangeSpec := { name := "upgradeExact", fn := fun _ => fun
  | [d1, d2, d3] => { results := [.lit (.bool true)], args := [d1, d2, d3] }
  | _ => none }
def upgradeExactRow : OpenClaim := { program := "ytmcgfohokniepaa", sum := "7a0d76bdd9df6f47c6012bcfc7a1786158380c47265941abcb6a6015e201fb80", func := "licit/licitlaw51.UpgradeExact", spec := "upgradeExact", inPlace := ["internal/bytealg.IndexByteString", "internal/bytealg.IndexString"], unfollowed := true, recurses := true, named := ["internal/bytealg.MaxLen"], plainKeys := false, apart := false }
def UpgradeExactSaid : Prop := upgradeExactRow.holds Try.pinned (OpenSpec.ofChange upgradeExactSpec)

/-- ITS FALSE NEIGHBOUR: 'it returns false'. Refute it at one input. -/
def upgradeExactWrong : ChangeSpec := { name := "upgradeExact", fn := fun _ => fun
  | [d1, d2, d3] => { results := [.lit (.bool false)], args := [d1, d2, d3] }
  | _ => none }
def UpgradeExactWrongFalsely : Prop := upgradeExactRow.holds Try.pinned (OpenSpec.ofChange upgradeExactWrong)

/-- 'licitlaw51.UpgradeAnswers': WHATEVER THE INPUT: true; the input reads as it did. -/
def upgradeAnswersSpec : ChangeSpec := { name := "upgradeAnswers", fn := fun _ => fun
  | [d1, d2, d3, d4] => { results := [.lit (.bool true)], args := [d1, d2, d3, d4] }
  | _ => none }
def upgradeAnswersRow : OpenClaim := { program := "ytmcgfohokniepaa", sum := "7a0d76bdd9df6f47c6012bcfc7a1786158380c47265941abcb6a6015e201fb80", func := "licit/licitlaw51.UpgradeAnswers", spec := "upgradeAnswers", inPlace := ["internal/bytealg.IndexByteString", "internal/bytealg.IndexString"], unfollowed := true, recurses := true, named := ["internal/bytealg.MaxLen"], plainKeys := false, apart := false }
def UpgradeAnswersSaid : Prop := upgradeAnswersRow.holds Try.pinned (OpenSpec.ofChange upgradeAnswersSpec)

/-- ITS FALSE NEIGHBOUR: 'it returns false'. Refute it at one input. -/
def upgradeAnswersWrong : ChangeSpec := { name := "upgradeAnswers", fn := fun _ => fun
  | [d1, d2, d3, d4] => { results := [.lit (.bool false)], args := [d1, d2, d3, d4] }
  | _ => none }
def UpgradeAnswersWrongFalsely : Prop := upgradeAnswersRow.holds Try.pinned (OpenSpec.ofChange upgradeAnswersWrong)

/-- 'licitlaw51.UpgradeDue': WHATEVER THE INPUT: true; the input reads as it did. -/
def upgradeDueSpec : ChangeSpec := { name := "upgradeDue", fn := fun _ => fun
  | [d1, d2] => { results := [.lit (.bool true)], args := [d1, d2] }
  | _ => none }
def upgradeDueRow : OpenClaim := { program := "ytmcgfohokniepaa", sum := "7a0d76bdd9df6f47c6012bcfc7a1786158380c47265941abcb6a6015e201fb80", func := "licit/licitlaw51.UpgradeDue", spec := "upgradeDue", inPlace := ["internal/bytealg.IndexByteString", "internal/bytealg.IndexString"], unfollowed := true, recurses := true, named := ["internal/bytealg.MaxLen"], plainKeys := false, apart := false }
def UpgradeDueSaid : Prop := upgradeDueRow.holds Try.pinned (OpenSpec.ofChange upgradeDueSpec)

/-- ITS FALSE NEIGHBOUR: 'it returns false'. Refute it at one input. -/
def upgradeDueWrong : ChangeSpec := { name := "upgradeDue", fn := fun _ => fun
  | [d1, d2] => { results := [.lit (.bool false)], args := [d1, d2] }
  | _ => none }
def UpgradeDueWrongFalsely : Prop := upgradeDueRow.holds Try.pinned (OpenSpec.ofChange upgradeDueWrong)

/-- 'licitlaw51.UpgradeReplaces': WHATEVER THE INPUT: true; the input reads as it did. -/
def upgradeReplacesSpec : ChangeSpec := { name := "upgradeReplaces", fn := fun _ => fun
  | [d1, d2, d3] => { results := [.lit (.bool true)], args := [d1, d2, d3] }
  | _ => none }
def upgradeReplacesRow : OpenClaim := { program := "ytmcgfohokniepaa", sum := "7a0d76bdd9df6f47c6012bcfc7a1786158380c47265941abcb6a6015e201fb80", func := "licit/licitlaw51.UpgradeReplaces", spec := "upgradeReplaces", inPlace := ["internal/bytealg.IndexByteString", "internal/bytealg.IndexString"], unfollowed := true, recurses := true, named := ["internal/bytealg.MaxLen"], plainKeys := false, apart := false }
def UpgradeReplacesSaid : Prop := upgradeReplacesRow.holds Try.pinned (OpenSpec.ofChange upgradeReplacesSpec)

/-- ITS FALSE NEIGHBOUR: 'it returns false'. Refute it at one input. -/
def upgradeReplacesWrong : ChangeSpec := { name := "upgradeReplaces", fn := fun _ => fun
  | [d1, d2, d3] => { results := [.lit (.bool false)], args := [d1, d2, d3] }
  | _ => none }
def UpgradeReplacesWrongFalsely : Prop := upgradeReplacesRow.holds Try.pinned (OpenSpec.ofChange upgradeReplacesWrong)

/- THE SECOND FORM. 'bulk': how many values and letters a reading holds, each counted each time it is reached (what is shared counts as often as it is met; a slice's spare places count too). A statement '..UptoSaid' is the law's where the arguments, and the package variables that the reading takes, are together of bulk at most 1048576: NARROWER than '..Said'. Prove '..Said' where nothing that the law and all that it calls make is longer than what came in: it says more and counts as full. Else prove '..UptoSaid'. A law counts once. -/
mutual
def uptoBulk {H : Type} : DataW H → Nat
  | .lit (.string bytes) => bytes.length + 1
  | .lit _ => 1
  | .nil => 1
  | .ptr d => uptoBulk d + 1
  | .slice elems spare => uptoBulkAll elems + uptoBulkAll spare + 1
  | .agg parts => uptoBulkAll parts + 1
  | .iface _ d => uptoBulk d + 1
  | .map entries => uptoBulkEntries entries + 1
  | .held _ => 1
def uptoBulkAll {H : Type} : List (DataW H) → Nat
  | [] => 0
  | d :: r => uptoBulk d + uptoBulkAll r
def uptoBulkEntries {H : Type} : List (Lit × DataW H) → Nat
  | [] => 0
  | x :: r => uptoBulkEntry x + uptoBulkEntries r
def uptoBulkEntry {H : Type} : Lit × DataW H → Nat
  | (.string bytes, d) => bytes.length + uptoBulk d + 1
  | (_, d) => uptoBulk d + 1
 end
def uptoSmall : (H : Type) → List (DataW H) → Bool := fun _ ds => decide (uptoBulkAll ds ≤ 1048576)
def OpenSpec.upto (s : _root_.Go.ChangeSpec) : _root_.Go.OpenSpec := { _root_.Go.OpenSpec.ofChange s with cond := some uptoSmall }

/-- 'licitlaw51.UpgradePackage', WHERE WHAT IT READS IS OF BULK AT MOST 1048576: true; the input reads as it did. -/
def upgradePackageUptoRow : OpenClaim := { program := "ytmcgfohokniepaa", sum := "7a0d76bdd9df6f47c6012bcfc7a1786158380c47265941abcb6a6015e201fb80", func := "licit/licitlaw51.UpgradePackage", spec := "upgradePackage", inPlace := ["internal/bytealg.IndexByteString", "internal/bytealg.IndexString"], unfollowed := true, recurses := true, named := ["internal/bytealg.MaxLen"], plainKeys := false, apart := false, narrowed := true }
def UpgradePackageUptoSaid : Prop := upgradePackageUptoRow.holds Try.pinned (OpenSpec.upto upgradePackageSpec)

/-- 'licitlaw51.UpgradeAny', WHERE WHAT IT READS IS OF BULK AT MOST 1048576: true; the input reads as it did. -/
def upgradeAnyUptoRow : OpenClaim := { program := "ytmcgfohokniepaa", sum := "7a0d76bdd9df6f47c6012bcfc7a1786158380c47265941abcb6a6015e201fb80", func := "licit/licitlaw51.UpgradeAny", spec := "upgradeAny", inPlace := ["internal/bytealg.IndexByteString", "internal/bytealg.IndexString"], unfollowed := true, recurses := true, named := ["internal/bytealg.MaxLen"], plainKeys := false, apart := false, narrowed := true }
def UpgradeAnyUptoSaid : Prop := upgradeAnyUptoRow.holds Try.pinned (OpenSpec.upto upgradeAnySpec)

/-- 'licitlaw51.UpgradeStatus', WHERE WHAT IT READS IS OF BULK AT MOST 1048576: true; the input reads as it did. -/
def upgradeStatusUptoRow : OpenClaim := { program := "ytmcgfohokniepaa", sum := "7a0d76bdd9df6f47c6012bcfc7a1786158380c47265941abcb6a6015e201fb80", func := "licit/licitlaw51.UpgradeStatus", spec := "upgradeStatus", inPlace := ["internal/bytealg.IndexByteString", "internal/bytealg.IndexString"], unfollowed := true, recurses := true, named := ["internal/bytealg.MaxLen"], plainKeys := false, apart := false, narrowed := true }
def UpgradeStatusUptoSaid : Prop := upgradeStatusUptoRow.holds Try.pinned (OpenSpec.upto upgradeStatusSpec)

/-- 'licitlaw51.UpgradeFallen', WHERE WHAT IT READS IS OF BULK AT MOST 1048576: true; the input reads as it did. -/
def upgradeFallenUptoRow : OpenClaim := { program := "ytmcgfohokniepaa", sum := "7a0d76bdd9df6f47c6012bcfc7a1786158380c47265941abcb6a6015e201fb80", func := "licit/licitlaw51.UpgradeFallen", spec := "upgradeFallen", inPlace := ["internal/bytealg.IndexByteString", "internal/bytealg.IndexString"], unfollowed := true, recurses := true, named := ["internal/bytealg.MaxLen"], plainKeys := false, apart := false, narrowed := true }
def UpgradeFallenUptoSaid : Prop := upgradeFallenUptoRow.holds Try.pinned (OpenSpec.upto upgradeFallenSpec)

/-- 'licitlaw51.UpgradeExact', WHERE WHAT IT READS IS OF BULK AT MOST 1048576: true; the input reads as it did. -/
def upgradeExactUptoRow : OpenClaim := { program := "ytmcgfohokniepaa", sum := "7a0d76bdd9df6f47c6012bcfc7a1786158380c47265941abcb6a6015e201fb80", func := "licit/licitlaw51.UpgradeExact", spec := "upgradeExact", inPlace := ["internal/bytealg.IndexByteString", "internal/bytealg.IndexString"], unfollowed := true, recurses := true, named := ["internal/bytealg.MaxLen"], plainKeys := false, apart := false, narrowed := true }
def UpgradeExactUptoSaid : Prop := upgradeExactUptoRow.holds Try.pinned (OpenSpec.upto upgradeExactSpec)

/-- 'licitlaw51.UpgradeAnswers', WHERE WHAT IT READS IS OF BULK AT MOST 1048576: true; the input reads as it did. -/
def upgradeAnswersUptoRow : OpenClaim := { program := "ytmcgfohokniepaa", sum := "7a0d76bdd9df6f47c6012bcfc7a1786158380c47265941abcb6a6015e201fb80", func := "licit/licitlaw51.UpgradeAnswers", spec := "upgradeAnswers", inPlace := ["internal/bytealg.IndexByteString", "internal/bytealg.IndexString"], unfollowed := true, recurses := true, named := ["internal/bytealg.MaxLen"], plainKeys := false, apart := false, narrowed := true }
def UpgradeAnswersUptoSaid : Prop := upgradeAnswersUptoRow.holds Try.pinned (OpenSpec.upto upgradeAnswersSpec)

/-- 'licitlaw51.UpgradeDue', WHERE WHAT IT READS IS OF BULK AT MOST 1048576: true; the input reads as it did. -/
def upgradeDueUptoRow : OpenClaim := { program := "ytmcgfohokniepaa", sum := "7a0d76bdd9df6f47c6012bcfc7a1786158380c47265941abcb6a6015e201fb80", func := "licit/licitlaw51.UpgradeDue", spec := "upgradeDue", inPlace := ["internal/bytealg.IndexByteString", "internal/bytealg.IndexString"], unfollowed := true, recurses := true, named := ["internal/bytealg.MaxLen"], plainKeys := false, apart := false, narrowed := true }
def UpgradeDueUptoSaid : Prop := upgradeDueUptoRow.holds Try.pinned (OpenSpec.upto upgradeDueSpec)

/-- 'licitlaw51.UpgradeReplaces', WHERE WHAT IT READS IS OF BULK AT MOST 1048576: true; the input reads as it did. -/
def upgradeReplacesUptoRow : OpenClaim := { program := "ytmcgfohokniepaa", sum := "7a0d76bdd9df6f47c6012bcfc7a1786158380c47265941abcb6a6015e201fb80", func := "licit/licitlaw51.UpgradeReplaces", spec := "upgradeReplaces", inPlace := ["internal/bytealg.IndexByteString", "internal/bytealg.IndexString"], unfollowed := true, recurses := true, named := ["internal/bytealg.MaxLen"], plainKeys := false, apart := false, narrowed := true }
def UpgradeReplacesUptoSaid : Prop := upgradeReplacesUptoRow.holds Try.pinned (OpenSpec.upto upgradeReplacesSpec)

end Rows
end Go.Proofs.Ytmcgfohokniepaa
