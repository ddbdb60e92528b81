/-
  One text of the proof (own work): contracts of functions of the program, by the abstract machine.
-/
import Derived.Test.YtmcgfohokniepaaX34
import Derived.Test.YtmcgfohokniepaaX41
set_option linter.unusedVariables false
set_option linter.unusedSimpArgs false
namespace Go.Proofs.Ytmcgfohokniepaa.upgradeReplaces
open Go.ChangeShapes Go.WideShapes Go.ChangeAt Go.RowKit Go.Ab
set_option maxRecDepth 100000
theorem contract (H : Type) (enc : TypeId × Value → H) (W : World) (base : Nat) (args : Array Value) (ds gs : List (DataW H)) (before : List MemPlace)
    (hval : ∀ (j : Nat) t v, Try.f10.params[j]? = some t → args[j]? = some v → Value.okWide Try.prog W .any base t v)
    (hW : DataW.Whole enc Try.prog Try.f10.params.toList Rows.upgradeReplacesSpec.vars false W args.toList ds gs before) (hk : Rows.uptoSmall H (ds ++ gs) = true) :
    Calls Try.prog 10 args W fun e W' => ∃ v, e = .returned v ∧ Rows.upgradeReplacesSpec.post enc Try.prog Try.f10 false true false false W args v W' := by
  have hW' := hW
  obtain ⟨p, q, hA, hV, _, _, _⟩ := hW'
  obtain ⟨rfl, rfl⟩ := trodVars_none hV
  have hlen := trodAll_len _ _ _ _ hA
  have hp : Try.f10.params.toList = [48, 48, 9] := by kernel_rfl
  rw [hp] at hlen
  obtain ⟨d1, d2, d3, rfl⟩ : ∃ d1 d2 d3, ds = [d1, d2, d3] := by
    match ds, hlen with
    | [d1, d2, d3], _ => exact ⟨d1, d2, d3, rfl⟩
  refine law_calls (g := g10) (fl := true) (tys := [.slice (.int .u8), .slice (.int .u8), .str]) (n := 1048576) (tb := 4) f10_ok laid51 (by kernel_rfl) (by kernel_rfl) (by kernel_rfl) (by kernel_rfl) (fun xs hx => ?_) rfl hval hW rfl ?_
  · obtain ⟨a, b, s, rfl, h1, h2, h3⟩ := has_nns hx (by omega)
    exact g10_eq h1 h2 h3
  · simp only [Rows.uptoSmall, decide_eq_true_eq, List.append_nil] at hk
    exact Nat.le_trans (bulkAll_le _) hk
theorem lifted (os : Os) (started : os.Started) (H : Type) (enc : TypeId × Value → H) (F : Stop.Interp) :
    ReturnsInHanded {} Try.checked os 10 .any ((Rows.OpenSpec.upto Rows.upgradeReplacesSpec).pre6 enc Try.prog Try.f10 Rows.upgradeReplacesUptoRow.domain false) (((Rows.OpenSpec.upto Rows.upgradeReplacesSpec).at F).post enc Try.prog Try.f10 false true false false) := by
  refine returnsInHanded_of_cond (C := Try.checked) (s := Rows.OpenSpec.upto Rows.upgradeReplacesSpec) (k := Rows.uptoSmall) rfl own51 started (by kernel_rfl) Try.func10
    (OpenSpec.witness (enc := enc) (C := Try.checked) (s := Rows.OpenSpec.upto Rows.upgradeReplacesSpec) (k := Rows.uptoSmall) rfl false ⟨#[], #[.slice none 0 0, .slice none 0 0, .string ⟨#[]⟩], []⟩ 8 (by kernel_rfl) (by kernel_rfl) (by kernel_rfl)
      (x := ([.nil, .nil, .lit (.string [])], [], [])) (by kernel_rfl) rfl (by kernel_rfl)) ?_
  intro W base args ds gs before hval hW _ hk _
  exact contract H enc W base args ds gs before hval hW hk
theorem over : Rows.upgradeReplacesUptoRow.holds Try.pinned (Rows.OpenSpec.upto Rows.upgradeReplacesSpec) :=
  OpenClaim.holds_of_cond 10 Try.f10 rfl rfl rfl rfl rfl rfl rfl ⟨rfl, rfl, rfl, rfl, rfl⟩ rfl rfl rfl rfl rfl (by kernel_rfl) Try.func10 (by kernel_rfl)
    (of_decide_eq_true (by kernel_rfl)) (by unfold Func.isWrapper; first | (rw [if_pos (by decide +kernel)]; kernel_rfl) | (rw [if_neg (by decide +kernel)]; exact ⟨rfl, rfl⟩))
    (fun os started H enc _ F => lifted os started H enc F)
theorem proved : Rows.UpgradeReplacesUptoSaid := over
end Go.Proofs.Ytmcgfohokniepaa.upgradeReplaces
