/-
  One text of the proof (own work): contracts of functions of the program, by the abstract machine.
-/
import Derived.Test.YtpecnbkfahekdaaAbRun
import Derived.Test.YtpecnbkfahekdaaA1
set_option linter.unusedVariables false
set_option linter.unusedSimpArgs false
namespace Go.Ab
open Go Go.RowKit Go.Proofs
set_option maxRecDepth 100000
/-! The example of the chapter, run. -/
def Γno : FuncId → Option CSpec := fun _ => none
theorem Γno_ok (P : Program) : ∀ f s, Γno f = some s → SpecOK P f s := fun f s h => by cases h
theorem awake_run : arun Try.prog Γno 3000 12 9 [] [] = some (.data (.bool true), []) := by kernel_rfl
noncomputable def g9 : List D → Option D := fun ds => match (arun Try.prog Γno 3000 12 9) (ds.map .data) [] with
  | some (.data d, _) => some d
  | _ => none
theorem g9_eq : g9 [] = some (.bool true) := by
  unfold g9
  rw [List.map_nil, awake_run]
theorem f9_ok : SpecOK Try.prog 9 (.pure false g9) := pure_of_loc (arun_sound mixedOK (Γno_ok _) 3000 12 9)
end Go.Ab
namespace Go.Ab
open Go Go.RowKit Go.Proofs
/-- awake, as a law's text should see it: nothing of it is reckoned again. -/
noncomputable def g9' : List D → Option D := encSpec (fun _ : Unit => []) (fun _ => True) (fun _ => .bool true)
theorem g9_eq' : g9' [] = some (.bool true) := encSpec_eq (enc := fun _ : Unit => ([] : List D)) (x := ()) trivial fun _ _ => rfl
theorem f9_ok' : PureOK Try.prog 9 false g9' := fun ds d hd => by
  obtain ⟨x, rfl, _, rfl⟩ := encSpec_some hd
  exact f9_ok [] _ g9_eq
end Go.Ab
