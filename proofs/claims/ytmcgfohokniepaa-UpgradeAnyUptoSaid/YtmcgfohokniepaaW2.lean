/-
  One text of the proof (own work): contracts of functions of the program, by the abstract machine.
-/
import Derived.Test.YtmcgfohokniepaaW1
set_option linter.unusedVariables false
set_option linter.unusedSimpArgs false
namespace Go.Ab
open Go Go.RowKit Go.Proofs
set_option maxRecDepth 100000
/-! The example of the chapter, run. -/
theorem awake_run : arun Try.prog Γb 3000 14 11 [] [] = some (.data (.bool true), []) := by kernel_rfl
noncomputable def g11 : List D → Option D := fun ds => match (arun Try.prog Γb 3000 14 11) (ds.map .data) [] with
  | some (.data d, _) => some d
  | _ => none
theorem g11_eq0 : g11 [] = some (.bool true) := by
  unfold g11
  rw [List.map_nil, awake_run]
theorem f11_ok0 : SpecOK Try.prog 11 (.pure false g11) := pure_of_loc (arun_sound mixedOK Γb_ok 3000 14 11)
/-- awake, as a law's text should see it: nothing of it is reckoned again. -/
noncomputable def g11' : List D → Option D := encSpec (fun _ : Unit => []) (fun _ => True) (fun _ => .bool true)
theorem g11_eq' : g11' [] = some (.bool true) := encSpec_eq (enc := fun _ : Unit => ([] : List D)) (x := ()) trivial fun _ _ => rfl
theorem f11_ok' : PureOK Try.prog 11 false g11' := fun ds d hd => by
  obtain ⟨x, rfl, _, rfl⟩ := encSpec_some hd
  exact f11_ok0 [] _ g11_eq0
end Go.Ab
