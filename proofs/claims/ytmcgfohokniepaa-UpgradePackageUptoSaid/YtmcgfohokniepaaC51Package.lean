/-
  One text of the proof (own work): contracts of functions of the program, by the abstract machine.
-/
import Derived.Test.YtmcgfohokniepaaB51
import Derived.Test.YtmcgfohokniepaaP2
set_option linter.unusedVariables false
set_option linter.unusedSimpArgs false
namespace Go.Proofs.Ytmcgfohokniepaa.upgradePackage
open Go.ChangeShapes Go.WideShapes Go.ChangeAt Go.RowKit Go.Ab
set_option maxRecDepth 100000

theorem contract (H : Type) (enc : TypeId × Value → H) (W : World) (base : Nat) (args : Array Value) (ds gs : List (DataW H)) (before : List MemPlace)
    (hval : ∀ (j : Nat) t v, Try.f3.params[j]? = some t → args[j]? = some v → Value.okWide Try.prog W .any base t v)
    (hW : DataW.Whole enc Try.prog Try.f3.params.toList Rows.upgradePackageSpec.vars false W args.toList ds gs before) (hk : Rows.uptoSmall H (ds ++ gs) = true) :
    Calls Try.prog 3 args W fun e W' => ∃ v, e = .returned v ∧ Rows.upgradePackageSpec.post enc Try.prog Try.f3 false true false false W args v W' := by
  have hW' := hW
  obtain ⟨p, q, hA, hV, _, _, _⟩ := hW'
  obtain ⟨rfl, rfl⟩ := trodVars_none hV
  have hlen := trodAll_len _ _ _ _ hA
  have hp : Try.f3.params.toList = [9] := by kernel_rfl
  rw [hp] at hlen
  obtain ⟨d1, rfl⟩ : ∃ d1, ds = [d1] := by
    match ds, hlen with
    | [d1], _ => exact ⟨d1, rfl⟩
  refine law_calls (g := g3) (fl := true) (tys := [.str]) (n := 1048576) (tb := 4) f3_ok laid51 (by kernel_rfl) (by kernel_rfl) (by kernel_rfl) (by kernel_rfl) (fun xs hx => ?_) rfl hval hW rfl ?_
  · obtain ⟨s, hl, rfl⟩ := has_s hx
    exact encSpec_eq (x := s) (show s.length ≤ 1099511627776 by omega) fun y _ => rfl
  · simp only [Rows.uptoSmall, decide_eq_true_eq, List.append_nil] at hk
    exact Nat.le_trans (bulkAll_le _) hk
theorem lifted (os : Os) (started : os.Started) (H : Type) (enc : TypeId × Value → H) (F : Stop.Interp) :
    ReturnsInHanded {} Try.checked os 3 .any ((Rows.OpenSpec.upto Rows.upgradePackageSpec).pre6 enc Try.prog Try.f3 Rows.upgradePackageUptoRow.domain false) (((Rows.OpenSpec.upto Rows.upgradePackageSpec).at F).post enc Try.prog Try.f3 false true false false) := by
  refine returnsInHanded_of_cond (C := Try.checked) (s := Rows.OpenSpec.upto Rows.upgradePackageSpec) (k := Rows.uptoSmall) rfl own51 started (by kernel_rfl) Try.func3
    (OpenSpec.witness (enc := enc) (C := Try.checked) (s := Rows.OpenSpec.upto Rows.upgradePackageSpec) (k := Rows.uptoSmall) rfl false ⟨#[], #[.string ⟨#[]⟩], []⟩ 8 (by kernel_rfl) (by kernel_rfl) (by kernel_rfl)
      (x := ([.lit (.string [])], [], [])) (by kernel_rfl) rfl (by kernel_rfl)) ?_
  intro W base args ds gs before hval hW _ hk _
  exact contract H enc W base args ds gs before hval hW hk
theorem over : Rows.upgradePackageUptoRow.holds Try.pinned (Rows.OpenSpec.upto Rows.upgradePackageSpec) :=
  OpenClaim.holds_of_cond 3 Try.f3 rfl rfl rfl rfl rfl rfl rfl ⟨rfl, rfl, rfl, rfl, rfl⟩ rfl rfl rfl rfl rfl (by kernel_rfl) Try.func3 (by kernel_rfl)
    (of_decide_eq_true (by kernel_rfl)) (by unfold Func.isWrapper; first | (rw [if_pos (by decide +kernel)]; kernel_rfl) | (rw [if_neg (by decide +kernel)]; exact ⟨rfl, rfl⟩))
    (fun os started H enc _ F => lifted os started H enc F)
theorem proved : Rows.UpgradePackageUptoSaid := over
end Go.Proofs.Ytmcgfohokniepaa.upgradePackage
