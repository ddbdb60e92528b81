/-
  One text of the proof (own work): contracts of functions of the program, by the abstract machine.
-/
import Derived.Test.YtpecnbkfahekdaaB18
import Derived.Test.YtpecnbkfahekdaaA34
set_option linter.unusedVariables false
set_option linter.unusedSimpArgs false
namespace Go.Proofs.Ytpecnbkfahekdaa.graphGates
open Go.ChangeShapes Go.WideShapes Go.ChangeAt Go.RowKit Go.Ab
set_option maxRecDepth 100000

theorem contract (H : Type) (enc : TypeId × Value → H) (W : World) (base : Nat) (args : Array Value) (ds gs : List (DataW H)) (before : List MemPlace)
    (hval : ∀ (j : Nat) t v, Try.f8.params[j]? = some t → args[j]? = some v → Value.okWide Try.prog W .any base t v)
    (hW : DataW.Whole enc Try.prog Try.f8.params.toList Rows.graphGatesSpec.vars false W args.toList ds gs before) (hk : Rows.uptoSmall H (ds ++ gs) = true) :
    Calls Try.prog 8 args W fun e W' => ∃ v, e = .returned v ∧ Rows.graphGatesSpec.post enc Try.prog Try.f8 false true false false W args v W' := by
  have hW' := hW
  obtain ⟨p, q, hA, hV, _, _, _⟩ := hW'
  obtain ⟨rfl, rfl⟩ := trodVars_none hV
  have hlen := trodAll_len _ _ _ _ hA
  have hp : Try.f8.params.toList = [25, 3, 3] := by kernel_rfl
  rw [hp] at hlen
  obtain ⟨d1, d2, d3, rfl⟩ : ∃ d1 d2 d3, ds = [d1, d2, d3] := by
    match ds, hlen with
    | [d1, d2, d3], _ => exact ⟨d1, d2, d3, rfl⟩
  refine law_calls (g := g8) (fl := true) (tys := [tyG, .int .i64, .int .i64]) (n := 1048576) (tb := 4) f8_ok laid18 (by kernel_rfl) (by kernel_rfl) (by kernel_rfl) (by kernel_rfl) (fun xs hx => ?_) rfl hval hW rfl ?_
  · obtain ⟨g, a, b, rfl, h1, h2⟩ := has_gii hx
    exact encSpec_eq (x := (g, a, b)) (show Sized g from ⟨by omega, by omega⟩) fun y _ => rfl
  · simp only [Rows.uptoSmall, decide_eq_true_eq, List.append_nil] at hk
    exact Nat.le_trans (bulkAll_le _) hk
theorem lifted (os : Os) (started : os.Started) (H : Type) (enc : TypeId × Value → H) (F : Stop.Interp) :
    ReturnsInHanded {} Try.checked os 8 .any ((Rows.OpenSpec.upto Rows.graphGatesSpec).pre6 enc Try.prog Try.f8 Rows.graphGatesUptoRow.domain false) (((Rows.OpenSpec.upto Rows.graphGatesSpec).at F).post enc Try.prog Try.f8 false true false false) := by
  refine returnsInHanded_of_cond (C := Try.checked) (s := Rows.OpenSpec.upto Rows.graphGatesSpec) (k := Rows.uptoSmall) rfl own18 started (by kernel_rfl) Try.func8
    (OpenSpec.witness (enc := enc) (C := Try.checked) (s := Rows.OpenSpec.upto Rows.graphGatesSpec) (k := Rows.uptoSmall) rfl false ⟨#[], #[.agg #[.slice none 0 0, .slice none 0 0], .int .i64 0, .int .i64 0], []⟩ 8 (by kernel_rfl) (by kernel_rfl) (by kernel_rfl)
      (x := ([.agg [.nil, .nil], .lit (.int .i64 0), .lit (.int .i64 0)], [], [])) (by kernel_rfl) rfl (by kernel_rfl)) ?_
  intro W base args ds gs before hval hW _ hk _
  exact contract H enc W base args ds gs before hval hW hk
theorem over : Rows.graphGatesUptoRow.holds Try.pinned (Rows.OpenSpec.upto Rows.graphGatesSpec) :=
  OpenClaim.holds_of_cond 8 Try.f8 rfl rfl rfl rfl rfl rfl rfl ⟨rfl, rfl, rfl, rfl, rfl⟩ rfl rfl rfl rfl rfl (by kernel_rfl) Try.func8 (by kernel_rfl)
    (of_decide_eq_true (by kernel_rfl)) (by unfold Func.isWrapper; first | (rw [if_pos (by decide +kernel)]; kernel_rfl) | (rw [if_neg (by decide +kernel)]; exact ⟨rfl, rfl⟩))
    (fun os started H enc _ F => lifted os started H enc F)
theorem proved : Rows.GraphGatesUptoSaid := over
end Go.Proofs.Ytpecnbkfahekdaa.graphGates
