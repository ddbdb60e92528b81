/-
  The statement ExpandUnreadUptoCardSaid is proved: for every argument of at most 1048576 values and letters in all the law's function answers true and leaves the argument as it was. Conditions: those of the card's row, none besides.
-/
import Derived.Test.YtapnigckcnknoaaGreatDoorCards
import Derived.Test.YtapnigckcnknoaaGreatDoorTie
import Derived.WalkKit
import Derived.ProofKit
import Derived.OpenShut
import Derived.Deep.DeepHandedRow
import Derived.Test.YtapnigckcnknoaaGreatDoorX26
import Derived.Test.YtapnigckcnknoaaGreatDoorX28
set_option linter.unusedVariables false
set_option linter.unusedSimpArgs false
namespace Go.Proofs.YtapnigckcnknoaaGreatDoor.expandUnread
open Go.ChangeShapes Go.WideShapes Go.ChangeAt Go.RowKit Go.Ab
set_option maxRecDepth 100000
theorem contract (H : Type) (enc : TypeId × Value → H) (W : World) (base : Nat) (args : Array Value) (ds gs : List (DataW H)) (before : List MemPlace)
    (hval : ∀ (j : Nat) t v, Tryz.f8.params[j]? = some t → args[j]? = some v → Value.okWide Tryz.prog W .any base t v)
    (hW : DataW.Whole enc Tryz.prog Tryz.f8.params.toList Rows.expandUnreadSpec.vars false W args.toList ds gs before) (hk : Rows.uptoSmall H (ds ++ gs) = true) :
    Calls Tryz.prog 8 args W fun e W' => ∃ v, e = .returned v ∧ Rows.expandUnreadSpec.post enc Tryz.prog Tryz.f8 false true false false W args v W' := by
  have hW' := hW
  obtain ⟨p, q, hA, hV, _, _, _⟩ := hW'
  obtain ⟨rfl, rfl⟩ := trodVars_none hV
  have hlen := trodAll_len _ _ _ _ hA
  have hp : Tryz.f8.params.toList = [47] := by kernel_rfl
  rw [hp] at hlen
  obtain ⟨d1, rfl⟩ : ∃ d1, ds = [d1] := by
    match ds, hlen with
    | [d1], _ => exact ⟨d1, rfl⟩
  refine law_callsR (g := g_law7u) (fl := true) (Rs := [RT tyCs]) (n := 1048576) (tb := 4) f_law7u_ok laid07 (by kernel_rfl) (by kernel_rfl) (by kernel_rfl) (by rw [hp]; exact ⟨rd_ty (by kernel_rfl), trivial⟩) (fun xs hx => ?_) rfl hval hW rfl ?_
  · obtain ⟨e0, _, k0, rfl, rfl⟩ := hx
    obtain ⟨fs, us, l, lp, ln, tx, h0, rfl⟩ := rt_case2 (by decide) k0
    exact encSpec_eq (x := (fs, us, l, lp, ln, tx)) (h0) fun _ _ => rfl
  · simp only [Rows.uptoSmall, decide_eq_true_eq, List.append_nil] at hk
    exact Nat.le_trans (bulkAll_le _) hk
theorem laid_met (os : Os) : laidMet Tryz.prog Rows.expandUnreadUptoRow.laid ((laidWorld os).forCall (fun _ _ => 0) ⟨#[], #[.agg #[.slice none 0 0, .slice none 0 0, .slice none 0 0, .string ⟨#[]⟩, .int .i64 0, .string ⟨#[]⟩]], []⟩).memory :=
  laidMet_of_run' 8 (by kernel_rfl) (by kernel_rfl)
theorem reads (os : Os) {H : Type} (enc : TypeId × Value → H) : ∃ places, DataW.whole enc Tryz.prog ((laidWorld os).forCall (fun _ _ => 0) ⟨#[], #[.agg #[.slice none 0 0, .slice none 0 0, .slice none 0 0, .string ⟨#[]⟩, .int .i64 0, .string ⟨#[]⟩]], []⟩).memory Tryz.f8.params.toList Rows.expandUnreadSpec.vars false #[Value.agg #[.slice none 0 0, .slice none 0 0, .slice none 0 0, .string ⟨#[]⟩, .int .i64 0, .string ⟨#[]⟩]].toList 8 = some ([.agg [.nil, .nil, .nil, .agg [.lit (.string []), .lit (.int .i64 0)], .lit (.string [])]], [], places) :=
  ⟨[], by kernel_rfl⟩
theorem liftedUpto (os : Os) (started : os.Started) (H : Type) (enc : TypeId × Value → H) (F : Stop.Interp) :
    ReturnsInHanded {} Tryz.checked os 8 .any ((Rows.OpenSpec.upto Rows.expandUnreadSpec).preRow enc Tryz.prog Tryz.f8 Rows.expandUnreadUptoRow.domain false Rows.expandUnreadUptoRow.laid) (((Rows.OpenSpec.upto Rows.expandUnreadSpec).at F).post enc Tryz.prog Tryz.f8 false true false false) := by
  obtain ⟨places, hx⟩ := reads os enc
  refine returnsInHanded_of_row (C := Tryz.checked) (s := Rows.OpenSpec.upto Rows.expandUnreadSpec) own07 started (by kernel_rfl) Tryz.func8
    (witness_row_at (enc := enc) (C := Tryz.checked) false (laidWorld os) #[.agg #[.slice none 0 0, .slice none 0 0, .slice none 0 0, .string ⟨#[]⟩, .int .i64 0, .string ⟨#[]⟩]] rfl (by kernel_rfl) (by kernel_rfl) (by kernel_rfl)
      (OpenSpec.preRow_of_cond 8 hx (by kernel_rfl) (fun k hk => by cases hk; kernel_rfl) (by kernel_rfl) (laid_met os))) ?_
  intro W base args ds gs before hval hW _ hcond _ hL _ _
  exact contract H enc W base args ds gs before hval hW (hcond _ rfl)
theorem saidUpto : Rows.ExpandUnreadUptoSaid :=
  OpenClaim.holds_of_cond 8 Tryz.f8 rfl rfl rfl rfl rfl rfl rfl ⟨rfl, rfl, rfl, rfl, rfl⟩ rfl rfl rfl rfl rfl (by kernel_rfl) Tryz.func8 (by kernel_rfl)
    (of_decide_eq_true (by kernel_rfl)) (by unfold Func.isWrapper; first | (rw [if_pos (by decide +kernel)]; kernel_rfl) | (rw [if_neg (by decide +kernel)]; exact ⟨rfl, rfl⟩))
    (fun os started H enc _ F => by rw [OpenClaim.pre_eq_preRow]; exact liftedUpto os started H enc F)
theorem plain (f : FuncId) (fn : Func) (hf : Tryz.pinned.checked.prog.funcNamed "licit/licitlaw07.ExpandUnread" = some f) (hfn : Tryz.pinned.checked.prog.funcs[f]? = some fn) :
    false = Tryz.pinned.checked.prog.looks [] ∧ ∀ (j : Nat) t, fn.params[j]? = some t → Tryz.pinned.checked.prog.wantsStandIn t = false := by
  obtain rfl : f = 8 := Option.some.inj ((show Tryz.prog.funcNamed "licit/licitlaw07.ExpandUnread" = some 8 by kernel_rfl).symm.trans hf) |>.symm
  obtain rfl : fn = Tryz.f8 := (Option.some.inj (Tryz.func8.symm.trans hfn)).symm
  refine ⟨by kernel_rfl, fun j t ht => ?_⟩
  rw [Tryz.params8] at ht
  have hm := Array.mem_of_getElem? ht
  simp only [List.mem_toArray, List.mem_cons, List.not_mem_nil, or_false] at hm
  subst hm
  exact (show Tryz.prog.wantsStandIn 47 = false by kernel_rfl)
theorem proved : Rows.ExpandUnreadUptoCardSaid :=
  Claim7.holds_tied_plain_at .later [] _ _ _ _ saidUpto (fun _ h => by cases h) (by kernel_rfl) (fun _ h => by cases h) expandUnreadUpto_row_tie rfl ⟨rfl, rfl⟩ (by kernel_rfl) rfl plain (by kernel_rfl)
end Go.Proofs.YtapnigckcnknoaaGreatDoor.expandUnread
