/-
  No cell of these rows narrows 'for every input' (looked for: loops, veiled, ifaces, maps, wideKeys, modest, calm, conditions, laid).
  DERIVED. THE GIVEN ROWS OF THIS SEAT. 6 by the template 'for every input the law returns true; each argument reads behind the call as it read before'; 0 by the template 'total and deterministic' (their statements: YtpecnbkfahekdaaTotals.lean).
  GIVEN WITH THE SEED: the statements are not yours to turn. If you find one false, say at which input.
  Laid BY PROGRAM, IN A SANDBOX (cutbox-rows.mjs): the forced cells as the released guide's own fill.sh prints them over the translation 0c611b3cfaaae488… (all of the seat's roots in one cut). By AI agents, Wed Nov 11 2026. No macro, syntax, notation, axiom, sorry.
-/
import Derived.Test.YtpecnbkfahekdaaChecked
import GoSem.Claim
import GoSem.ClaimJoined
import GoSem.ClaimMapViews
import Derived.JoinedTies
import Derived.KernelRfl
namespace Go.Proofs.Ytpecnbkfahekdaa
/- THE CELL 'sum', in the pinned program and in every row, IS THE sha256 OF THE DUMP (.gsa) THAT YtpecnbkfahekdaaProg.lean LOADS. Nothing in Lean hashes anything: it is a label: what it is worth is what the hold of that sum in a sandbox is worth. -/
noncomputable def Try.pinned : Pinned := { name := "ytpecnbkfahekdaa", sum := "0c611b3cfaaae488d22a427cc6432e49c0aa4ec4cf7162f7c74d2a68242ad080", checked := Try.checked }
namespace Rows
def none {H : Type} : Left H := { results := [], args := [] }

/-- 'licitlaw18.GraphOrders': WHATEVER THE INPUT: true; the input reads as it did. -/
def graphOrdersSpec : ChangeSpec := { name := "graphOrders", fn := fun _ => fun
  | [d] => { results := [.lit (.bool true)], args := [d] }
  | _ => none }
def graphOrdersRow : OpenClaim := { program := "ytpecnbkfahekdaa", sum := "0c611b3cfaaae488d22a427cc6432e49c0aa4ec4cf7162f7c74d2a68242ad080", func := "licit/licitlaw18.GraphOrders", spec := "graphOrders", inPlace := ["slices.overlaps[int]"], unfollowed := true, recurses := true, apart := false }
def GraphOrdersSaid : Prop := graphOrdersRow.holds Try.pinned (OpenSpec.ofChange graphOrdersSpec)

/-- ITS FALSE NEIGHBOUR: 'it returns false'. Refute it at one input. -/
def graphOrdersWrong : ChangeSpec := { name := "graphOrders", fn := fun _ => fun
  | [d] => { results := [.lit (.bool false)], args := [d] }
  | _ => none }
def GraphOrdersWrongFalsely : Prop := graphOrdersRow.holds Try.pinned (OpenSpec.ofChange graphOrdersWrong)

/-- 'licitlaw18.GraphChains': WHATEVER THE INPUT: true; the input reads as it did. -/
def graphChainsSpec : ChangeSpec := { name := "graphChains", fn := fun _ => fun
  | [d1, d2, d3] => { results := [.lit (.bool true)], args := [d1, d2, d3] }
  | _ => none }
def graphChainsRow : OpenClaim := { program := "ytpecnbkfahekdaa", sum := "0c611b3cfaaae488d22a427cc6432e49c0aa4ec4cf7162f7c74d2a68242ad080", func := "licit/licitlaw18.GraphChains", spec := "graphChains", inPlace := ["slices.overlaps[int]"], unfollowed := true, recurses := true, apart := false }
def GraphChainsSaid : Prop := graphChainsRow.holds Try.pinned (OpenSpec.ofChange graphChainsSpec)

/-- ITS FALSE NEIGHBOUR: 'it returns false'. Refute it at one input. -/
def graphChainsWrong : ChangeSpec := { name := "graphChains", fn := fun _ => fun
  | [d1, d2, d3] => { results := [.lit (.bool false)], args := [d1, d2, d3] }
  | _ => none }
def GraphChainsWrongFalsely : Prop := graphChainsRow.holds Try.pinned (OpenSpec.ofChange graphChainsWrong)

/-- 'licitlaw18.GraphWays': WHATEVER THE INPUT: true; the input reads as it did. -/
def graphWaysSpec : ChangeSpec := { name := "graphWays", fn := fun _ => fun
  | [d1, d2, d3] => { results := [.lit (.bool true)], args := [d1, d2, d3] }
  | _ => none }
def graphWaysRow : OpenClaim := { program := "ytpecnbkfahekdaa", sum := "0c611b3cfaaae488d22a427cc6432e49c0aa4ec4cf7162f7c74d2a68242ad080", func := "licit/licitlaw18.GraphWays", spec := "graphWays", inPlace := ["slices.overlaps[int]"], unfollowed := true, recurses := true, apart := false }
def GraphWaysSaid : Prop := graphWaysRow.holds Try.pinned (OpenSpec.ofChange graphWaysSpec)

/-- ITS FALSE NEIGHBOUR: 'it returns false'. Refute it at one input. -/
def graphWaysWrong : ChangeSpec := { name := "graphWays", fn := fun _ => fun
  | [d1, d2, d3] => { results := [.lit (.bool false)], args := [d1, d2, d3] }
  | _ => none }
def GraphWaysWrongFalsely : Prop := graphWaysRow.holds Try.pinned (OpenSpec.ofChange graphWaysWrong)

/-- 'licitlaw18.GraphSorts': WHATEVER THE INPUT: true; the input reads as it did. -/
def graphSortsSpec : ChangeSpec := { name := "graphSorts", fn := fun _ => fun
  | [d] => { results := [.lit (.bool true)], args := [d] }
  | _ => none }
def graphSortsRow : OpenClaim := { program := "ytpecnbkfahekdaa", sum := "0c611b3cfaaae488d22a427cc6432e49c0aa4ec4cf7162f7c74d2a68242ad080", func := "licit/licitlaw18.GraphSorts", spec := "graphSorts", inPlace := ["slices.overlaps[int]"], unfollowed := true, recurses := true, apart := false }
def GraphSortsSaid : Prop := graphSortsRow.holds Try.pinned (OpenSpec.ofChange graphSortsSpec)

/-- ITS FALSE NEIGHBOUR: 'it returns false'. Refute it at one input. -/
def graphSortsWrong : ChangeSpec := { name := "graphSorts", fn := fun _ => fun
  | [d] => { results := [.lit (.bool false)], args := [d] }
  | _ => none }
def GraphSortsWrongFalsely : Prop := graphSortsRow.holds Try.pinned (OpenSpec.ofChange graphSortsWrong)

/-- 'licitlaw18.GraphReaches': WHATEVER THE INPUT: true; the input reads as it did. -/
def graphReachesSpec : ChangeSpec := { name := "graphReaches", fn := fun _ => fun
  | [d1, d2] => { results := [.lit (.bool true)], args := [d1, d2] }
  | _ => none }
def graphReachesRow : OpenClaim := { program := "ytpecnbkfahekdaa", sum := "0c611b3cfaaae488d22a427cc6432e49c0aa4ec4cf7162f7c74d2a68242ad080", func := "licit/licitlaw18.GraphReaches", spec := "graphReaches", inPlace := ["slices.overlaps[int]"], unfollowed := true, recurses := true, apart := false }
def GraphReachesSaid : Prop := graphReachesRow.holds Try.pinned (OpenSpec.ofChange graphReachesSpec)

/-- ITS FALSE NEIGHBOUR: 'it returns false'. Refute it at one input. -/
def graphReachesWrong : ChangeSpec := { name := "graphReaches", fn := fun _ => fun
  | [d1, d2] => { results := [.lit (.bool false)], args := [d1, d2] }
  | _ => none }
def GraphReachesWrongFalsely : Prop := graphReachesRow.holds Try.pinned (OpenSpec.ofChange graphReachesWrong)

/-- 'licitlaw18.GraphGates': WHATEVER THE INPUT: true; the input reads as it did. -/
def graphGatesSpec : ChangeSpec := { name := "graphGates", fn := fun _ => fun
  | [d1, d2, d3] => { results := [.lit (.bool true)], args := [d1, d2, d3] }
  | _ => none }
def graphGatesRow : OpenClaim := { program := "ytpecnbkfahekdaa", sum := "0c611b3cfaaae488d22a427cc6432e49c0aa4ec4cf7162f7c74d2a68242ad080", func := "licit/licitlaw18.GraphGates", spec := "graphGates", inPlace := ["slices.overlaps[int]"], unfollowed := true, recurses := true, apart := false }
def GraphGatesSaid : Prop := graphGatesRow.holds Try.pinned (OpenSpec.ofChange graphGatesSpec)

/-- ITS FALSE NEIGHBOUR: 'it returns false'. Refute it at one input. -/
def graphGatesWrong : ChangeSpec := { name := "graphGates", fn := fun _ => fun
  | [d1, d2, d3] => { results := [.lit (.bool false)], args := [d1, d2, d3] }
  | _ => none }
def GraphGatesWrongFalsely : Prop := graphGatesRow.holds Try.pinned (OpenSpec.ofChange graphGatesWrong)

/- THE SECOND FORM. 'bulk': how many values and letters a reading holds, each counted each time it is reached (what is shared counts as often as it is met; a slice's spare places count too). A statement '..UptoSaid' is the law's where the arguments, and the package variables that the reading takes, are together of bulk at most 1048576: NARROWER than '..Said'. Prove '..Said' where nothing that the law and all that it calls make is longer than what came in: it says more and counts as full. Else prove '..UptoSaid'. A law counts once. -/
mutual
def uptoBulk {H : Type} : DataW H → Nat
  | .lit (.string bytes) => bytes.length + 1
  | .lit _ => 1
  | .nil => 1
  | .ptr d => uptoBulk d + 1
  | .slice elems spare => uptoBulkAll elems + uptoBulkAll spare + 1
  | .agg parts => uptoBulkAll parts + 1
  | .iface _ d => uptoBulk d + 1
  | .map entries => uptoBulkEntries entries + 1
  | .held _ => 1
def uptoBulkAll {H : Type} : List (DataW H) → Nat
  | [] => 0
  | d :: r => uptoBulk d + uptoBulkAll r
def uptoBulkEntries {H : Type} : List (Lit × DataW H) → Nat
  | [] => 0
  | x :: r => uptoBulkEntry x + uptoBulkEntries r
def uptoBulkEntry {H : Type} : Lit × DataW H → Nat
  | (.string bytes, d) => bytes.length + uptoBulk d + 1
  | (_, d) => uptoBulk d + 1
 end
def uptoSmall : (H : Type) → List (DataW H) → Bool := fun _ ds => decide (uptoBulkAll ds ≤ 1048576)
def OpenSpec.upto (s : _root_.Go.ChangeSpec) : _root_.Go.OpenSpec := { _root_.Go.OpenSpec.ofChange s with cond := some uptoSmall }

/-- 'licitlaw18.GraphOrders', WHERE WHAT IT READS IS OF BULK AT MOST 1048576: true; the input reads as it did. -/
def graphOrdersUptoRow : OpenClaim := { program := "ytpecnbkfahekdaa", sum := "0c611b3cfaaae488d22a427cc6432e49c0aa4ec4cf7162f7c74d2a68242ad080", func := "licit/licitlaw18.GraphOrders", spec := "graphOrders", inPlace := ["slices.overlaps[int]"], unfollowed := true, recurses := true, apart := false, narrowed := true }
def GraphOrdersUptoSaid : Prop := graphOrdersUptoRow.holds Try.pinned (OpenSpec.upto graphOrdersSpec)

/-- 'licitlaw18.GraphChains', WHERE WHAT IT READS IS OF BULK AT MOST 1048576: true; the input reads as it did. -/
def graphChainsUptoRow : OpenClaim := { program := "ytpecnbkfahekdaa", sum := "0c611b3cfaaae488d22a427cc6432e49c0aa4ec4cf7162f7c74d2a68242ad080", func := "licit/licitlaw18.GraphChains", spec := "graphChains", inPlace := ["slices.overlaps[int]"], unfollowed := true, recurses := true, apart := false, narrowed := true }
def GraphChainsUptoSaid : Prop := graphChainsUptoRow.holds Try.pinned (OpenSpec.upto graphChainsSpec)

/-- 'licitlaw18.GraphWays', WHERE WHAT IT READS IS OF BULK AT MOST 1048576: true; the input reads as it did. -/
def graphWaysUptoRow : OpenClaim := { program := "ytpecnbkfahekdaa", sum := "0c611b3cfaaae488d22a427cc6432e49c0aa4ec4cf7162f7c74d2a68242ad080", func := "licit/licitlaw18.GraphWays", spec := "graphWays", inPlace := ["slices.overlaps[int]"], unfollowed := true, recurses := true, apart := false, narrowed := true }
def GraphWaysUptoSaid : Prop := graphWaysUptoRow.holds Try.pinned (OpenSpec.upto graphWaysSpec)

/-- 'licitlaw18.GraphSorts', WHERE WHAT IT READS IS OF BULK AT MOST 1048576: true; the input reads as it did. -/
def graphSortsUptoRow : OpenClaim := { program := "ytpecnbkfahekdaa", sum := "0c611b3cfaaae488d22a427cc6432e49c0aa4ec4cf7162f7c74d2a68242ad080", func := "licit/licitlaw18.GraphSorts", spec := "graphSorts", inPlace := ["slices.overlaps[int]"], unfollowed := true, recurses := true, apart := false, narrowed := true }
def GraphSortsUptoSaid : Prop := graphSortsUptoRow.holds Try.pinned (OpenSpec.upto graphSortsSpec)

/-- 'licitlaw18.GraphReaches', WHERE WHAT IT READS IS OF BULK AT MOST 1048576: true; the input reads as it did. -/
def graphReachesUptoRow : OpenClaim := { program := "ytpecnbkfahekdaa", sum := "0c611b3cfaaae488d22a427cc6432e49c0aa4ec4cf7162f7c74d2a68242ad080", func := "licit/licitlaw18.GraphReaches", spec := "graphReaches", inPlace := ["slices.overlaps[int]"], unfollowed := true, recurses := true, apart := false, narrowed := true }
def GraphReachesUptoSaid : Prop := graphReachesUptoRow.holds Try.pinned (OpenSpec.upto graphReachesSpec)

/-- 'licitlaw18.GraphGates', WHERE WHAT IT READS IS OF BULK AT MOST 1048576: true; the input reads as it did. -/
def graphGatesUptoRow : OpenClaim := { program := "ytpecnbkfahekdaa", sum := "0c611b3cfaaae488d22a427cc6432e49c0aa4ec4cf7162f7c74d2a68242ad080", func := "licit/licitlaw18.GraphGates", spec := "graphGates", inPlace := ["slices.overlaps[int]"], unfollowed := true, recurses := true, apart := false, narrowed := true }
def GraphGatesUptoSaid : Prop := graphGatesUptoRow.holds Try.pinned (OpenSpec.upto graphGatesSpec)

end Rows
end Go.Proofs.Ytpecnbkfahekdaa
