/-
  One text of the proof (own work): contracts of functions of the program, by the abstract machine.
-/
import Derived.Test.YtmcgfohokniepaaU11
import Derived.Test.YtmcgfohokniepaaW2
set_option linter.unusedVariables false
set_option linter.unusedSimpArgs false
namespace Go.Ab
open Go Go.RowKit Go.Proofs
set_option maxRecDepth 100000
set_option maxHeartbeats 4000000

theorem eq_nil31 (ao : Option Addr) (n cap : Nat) (w : World) : (binOp BinOp.eql 31 (.slice ao n cap) (.slice none 0 0)).run Try.prog w = .ok (.bool ao.isNone) w := by
  have heq : ∀ k, (Op.equalIn (k + 1) 31 (.slice ao n cap) (.slice none 0 0)).run Try.prog w = .ok ao.isNone w := fun k => by
    simp only [Op.equalIn, Sem.run_bind, run_underlying ty_und31, Result.andThen_ok, Sem.run_pure]
    cases ao <;> simp
  have h2 : (Op.equal 31 (.slice ao n cap) (.slice none 0 0)).run Try.prog w = .ok ao.isNone w := heq 9999
  simp only [binOp, Sem.run_bind, h2, Result.andThen_ok, Sem.run_pure]
theorem call16 (ao : Option Addr) (cap : Nat) (w : World) :
    Calls Try.prog 16 #[.slice ao 0 cap] w fun e w' => ∃ a c, e = .returned (.slice a 0 c) ∧ Below w.heap.size w w' := by
  cases ao with
  | none =>
    go_enter Try.func16, Try.ntmps16
    go_wp2
    rw [eq_nil31]
    simp only [Result.andThen]
    rw [Oper.upon_value]
    go_wp2
    go_ret
    exact ⟨none, 0, rfl, Below.refl _ _⟩
  | some a =>
    go_enter Try.func16, Try.ntmps16
    go_wp2
    rw [eq_nil31]
    simp only [Result.andThen]
    rw [Oper.upon_value]
    go_wp2
    go_ret
    exact ⟨_, _, rfl, (Below.refl _ _).alloc (Nat.le_refl _) _⟩
noncomputable def g16n : List D → Option D := encSpec (fun l : List Now => [.list (l.map eN)]) (fun l => l.length ≤ 1099511627776 ∧ l ≠ []) (fun l => .list (l.map eN))
theorem f16n_ok : PureOK Try.prog 16 false g16n := by
  have hΓ := Γ0_ok
  refine pure_enc (n := 8) (rs := [.tmp 2]) Try.func16 (by kernel_rfl) rfl (by kernel_rfl) (by kernel_rfl) ?_
  rintro l ⟨hl, hne⟩
  refine ⟨fun h => (by cases h), fun k hz0 => ?_⟩
  obtain ⟨x, l, rfl⟩ := List.exists_cons_of_ne_nil hne
  rw [start_frame (by simp)]; simp only [enumV, go_sem, emptyH]
  have hem : elemsOK 3 (l.map eN) = true := elemsOK_map (f := eN) (sz := 3) (fun x => ⟨by simp [eN, D.cells], by simp [eN, D.cells, D.one]⟩) l
  generalize hm : l.map eN = m at hem
  have hml : m.length + 1 ≤ 1099511627776 := by subst hm; simpa using hl
  repeat (first
    | refine awp_seq ?_ | refine awp_block ?_ | refine awp_ret ?_ | refine awp_skip ?_ | refine awp_exit ?_ | refine awp_label ?_
    | refine then_normal ?_ | refine then_ret ?_ | refine then_exit ?_ | refine block_normal ?_ | refine block_ret ?_ | refine block_exit ?_ | refine block_out rfl ?_
    | (apply awp_reg hΓ; (focus (simp (disch := omega) only [go_sem, ↓reduceIte, ↓map_lit, ↓List.map_cons, ↓List.map_nil, decide_eq_true, decide_eq_false, if_pos, if_neg, wrap_in, maxLen, hem]; with_reducible rfl)))
    | (apply awp_regf mixedOK hΓ (by kernel_rfl); (focus (simp (disch := omega) only [go_sem, ↓reduceIte, ↓map_lit, ↓List.map_cons, ↓List.map_nil, decide_eq_true, decide_eq_false, if_pos, if_neg, wrap_in, maxLen, hem]; with_reducible rfl)); (focus (simp only [go_sem]; with_reducible rfl)))
    | (apply awp_regt mixedOK hΓ rfl; (focus kernel_rfl); (focus (simp (disch := omega) only [go_sem, ↓reduceIte, ↓map_lit, ↓List.map_cons, ↓List.map_nil, decide_eq_true, decide_eq_false, if_pos, if_neg, wrap_in, maxLen, hem]; with_reducible rfl)); (focus (simp only [go_sem]; with_reducible rfl)); (focus (simp (disch := omega) only [go_sem, ↓reduceIte, ↓map_lit, ↓List.map_cons, ↓List.map_nil, decide_eq_true, decide_eq_false, if_pos, if_neg, wrap_in, maxLen, hem]; with_reducible rfl)))
    | (apply awp_cond_t; (focus (simp (disch := omega) only [go_sem, ↓reduceIte, ↓map_lit, ↓List.map_cons, ↓List.map_nil, decide_eq_true, decide_eq_false, if_pos, if_neg, wrap_in, maxLen, hem]; done))) | (apply awp_cond_f; (focus (simp (disch := omega) only [go_sem, ↓reduceIte, ↓map_lit, ↓List.map_cons, ↓List.map_nil, decide_eq_true, decide_eq_false, if_pos, if_neg, wrap_in, maxLen, hem]; done)))
    | (apply ret_e; (focus (simp (disch := omega) only [go_sem, ↓reduceIte, ↓map_lit, ↓List.map_cons, ↓List.map_nil, decide_eq_true, decide_eq_false, if_pos, if_neg, wrap_in, maxLen, hem]; with_reducible rfl)); (focus (simp (disch := omega) only [go_sem, ↓reduceIte, ↓map_lit, ↓List.map_cons, ↓List.map_nil, decide_eq_true, decide_eq_false, if_pos, if_neg, wrap_in, maxLen, hem]; with_reducible rfl))) | (apply end_e; (focus (simp (disch := omega) only [go_sem, ↓reduceIte, ↓map_lit, ↓List.map_cons, ↓List.map_nil, decide_eq_true, decide_eq_false, if_pos, if_neg, wrap_in, maxLen, hem]; with_reducible rfl)); (focus (simp (disch := omega) only [go_sem, ↓reduceIte, ↓map_lit, ↓List.map_cons, ↓List.map_nil, decide_eq_true, decide_eq_false, if_pos, if_neg, wrap_in, maxLen, hem]; with_reducible rfl)))
    | rfl)
noncomputable def g16 : List D → Option D := encSpec (fun l : List Now => [.list (l.map eN)]) (fun l => l.length ≤ 1099511627776) (fun l => .list (l.map eN))
theorem g16_eq {l : List Now} (h : l.length ≤ 1099511627776) : g16 [.list (l.map eN)] = some (.list (l.map eN)) := encSpec_eq (x := l) h fun y hy => by
  simp only [List.cons.injEq, and_true] at hy
  rw [hy]
theorem f16_ok : PureOK Try.prog 16 false g16 := by
  intro ds d hd
  obtain ⟨l, rfl, hl, rfl⟩ := encSpec_some hd
  cases l with
  | cons x l =>
    exact f16n_ok _ _ (encSpec_eq (x := x :: l) ⟨hl, by simp⟩ fun y hy => by
      simp only [List.cons.injEq, and_true] at hy
      rw [hy])
  | nil =>
    refine ⟨fun h => (by cases h), fun w B vs hB hz hvs => ⟨⟨_, Try.func16, rfl, rfl⟩, ?_⟩⟩
    obtain ⟨u, hu⟩ : ∃ u, vs[0]? = some u := ⟨_, Array.getElem?_eq_getElem (by simp at hz; omega)⟩
    obtain ⟨ao, cap, hv, _⟩ := (hvs 0 (by simp) u hu).list_inv
    have hvs2 : vs = #[.slice ao 0 cap] := by
      apply Array.ext_getElem?
      intro i
      match i with
      | 0 => rw [hu, hv]; rfl
      | i + 1 => rw [Array.getElem?_eq_none (by simp at hz; omega), Array.getElem?_eq_none (by simp)]
    rw [hvs2]
    refine (call16 ao cap w).mono ?_
    rintro e w' ⟨a, c, rfl, hb⟩
    exact ⟨_, rfl, .empty a c, hb⟩
/-! ### The law UpgradeAny -/
noncomputable def Γ4 : FuncId → Option CSpec := fun f => if f = 11 then some (.pure false g11') else if f = 14 then some (.pure true g14) else if f = 15 then some (.pure false g15) else if f = 16 then some (.pure false g16) else if f = 17 then some (.pure false g15) else if f = 18 then some (.pure false g19) else if f = 19 then some (.pure false g19) else if f = 20 then some (.pure true g20) else if f = 21 then some (.pure true g21) else if f = 22 then some (.pure true g22) else if f = 23 then some (.pure true g22) else none
theorem Γ4_ok : ∀ f s, Γ4 f = some s → SpecOK Try.prog f s := by
  intro f s h
  unfold Γ4 at h
  split at h
  · rename_i hf; cases h; subst hf; exact f11_ok'
  split at h
  · rename_i hf; cases h; subst hf; exact f14_ok
  split at h
  · rename_i hf; cases h; subst hf; exact f15_ok
  split at h
  · rename_i hf; cases h; subst hf; exact f16_ok
  split at h
  · rename_i hf; cases h; subst hf; exact f17_ok
  split at h
  · rename_i hf; cases h; subst hf; exact f18_ok
  split at h
  · rename_i hf; cases h; subst hf; exact f19_ok
  split at h
  · rename_i hf; cases h; subst hf; exact f20_ok
  split at h
  · rename_i hf; cases h; subst hf; exact f21_ok
  split at h
  · rename_i hf; cases h; subst hf; exact f22_ok
  split at h
  · rename_i hf; cases h; subst hf; exact f23_ok
  · cases h
noncomputable def g4 : List D → Option D := encSpec (fun x : Rev × List Now => [eR x.1, .list (x.2.map eN)]) (fun x => SzA x.1 x.2) (fun x => .bool true)
theorem g4_eq {r : Rev} {l : List Now} (h : SzA r l) : g4 [eR r, .list (l.map eN)] = some (.bool true) := encSpec_eq (x := (r, l)) h fun y hy => rfl
theorem f4_ok : PureOK Try.prog 4 true g4 := by
  have hΓ := Γ4_ok
  refine pure_enc (n := 74) (rs := [.tmp 4]) Try.func4 (by kernel_rfl) rfl (by kernel_rfl) (by kernel_rfl) ?_
  rintro ⟨r, l⟩ hz
  dsimp only at hz ⊢
  have hll := hz.v.l
  have hdl := hz.v.r.dcs
  refine ⟨fun _ => .bool _, fun k hz0 => ?_⟩
  have e14 := g14_eq hz.v
  have e15 := g15_eq hz
  have e16 := g16_eq hz.v.l
  have e19 := g19_eq hz
  have e20 := g20_eq (l := stds r l) (by rw [stds_len]; exact hdl)
  have e21 := g21_eq (l := dues r l l) (Nat.le_trans (dues_len _ _ _) hll)
  have e20n := g20_eq (l := []) (by simp)
  have e21n := g21_eq (l := []) (by simp)
  have e22 := g22_eq hz.v.l
  simp only [List.map_nil] at e20n e21n
  rw [start_frame (by simp)]; simp only [enumV, go_sem, emptyH]
  cases hf : few51 r l with
  | false =>
    rw [hf] at e14
    repeat (first
      | refine awp_seq ?_ | refine awp_block ?_ | refine awp_ret ?_ | refine awp_skip ?_ | refine awp_exit ?_ | refine awp_label ?_
      | refine then_normal ?_ | refine then_ret ?_ | refine then_exit ?_ | refine block_normal ?_ | refine block_ret ?_ | refine block_exit ?_ | refine block_out rfl ?_
      | (apply awp_reg hΓ; (focus (simp (disch := omega) only [go_sem, ↓reduceIte, decide_eq_true, decide_eq_false, if_pos, if_neg, wrap_in, maxLen, Γ4, g11_eq', e14]; with_reducible rfl)))
      | (apply awp_regf mixedOK hΓ (by kernel_rfl); (focus (simp (disch := omega) only [go_sem, ↓reduceIte, decide_eq_true, decide_eq_false, if_pos, if_neg, wrap_in, maxLen, Γ4, g11_eq', e14]; with_reducible rfl)); (focus (simp only [go_sem]; with_reducible rfl)))
      | (apply awp_regt mixedOK hΓ rfl; (focus kernel_rfl); (focus (simp (disch := omega) only [go_sem, ↓reduceIte, decide_eq_true, decide_eq_false, if_pos, if_neg, wrap_in, maxLen, Γ4, g11_eq', e14]; with_reducible rfl)); (focus (simp only [go_sem]; with_reducible rfl)); (focus (simp (disch := omega) only [go_sem, ↓reduceIte, decide_eq_true, decide_eq_false, if_pos, if_neg, wrap_in, maxLen, Γ4, g11_eq', e14]; with_reducible rfl)))
      | (apply awp_cond_t; (focus (simp (disch := omega) only [go_sem, ↓reduceIte, decide_eq_true, decide_eq_false, if_pos, if_neg, wrap_in, maxLen, Γ4, g11_eq', e14]; done))) | (apply awp_cond_f; (focus (simp (disch := omega) only [go_sem, ↓reduceIte, decide_eq_true, decide_eq_false, if_pos, if_neg, wrap_in, maxLen, Γ4, g11_eq', e14]; done)))
      | (apply ret_e; (focus (simp (disch := omega) only [go_sem, ↓reduceIte, decide_eq_true, decide_eq_false, if_pos, if_neg, wrap_in, maxLen, Γ4, g11_eq', e14]; with_reducible rfl)); (focus (simp (disch := omega) only [go_sem, ↓reduceIte, decide_eq_true, decide_eq_false, if_pos, if_neg, wrap_in, maxLen, Γ4, g11_eq', e14]; with_reducible rfl))) | (apply end_e; (focus (simp (disch := omega) only [go_sem, ↓reduceIte, decide_eq_true, decide_eq_false, if_pos, if_neg, wrap_in, maxLen, Γ4, g11_eq', e14]; with_reducible rfl)); (focus (simp (disch := omega) only [go_sem, ↓reduceIte, decide_eq_true, decide_eq_false, if_pos, if_neg, wrap_in, maxLen, Γ4, g11_eq', e14]; with_reducible rfl)))
      | rfl)
  | true =>
  rw [hf] at e14
  rcases vld_01 l with h | h
  · have hs : stR r l = .tup [.list ((stds r l).map eS), i64 0] := by simp [stR, h]
    have hd : duR r l = .tup [.list ((dues r l l).map eN), i64 0] := by simp [duR, h]
    rw [h] at e22
    rw [hs] at e15
    rw [hd] at e19
    repeat (first
      | refine awp_seq ?_ | refine awp_block ?_ | refine awp_ret ?_ | refine awp_skip ?_ | refine awp_exit ?_ | refine awp_label ?_
      | refine then_normal ?_ | refine then_ret ?_ | refine then_exit ?_ | refine block_normal ?_ | refine block_ret ?_ | refine block_exit ?_ | refine block_out rfl ?_
      | (apply awp_reg hΓ; (focus (simp (disch := omega) only [go_sem, ↓reduceIte, decide_eq_true, decide_eq_false, if_pos, if_neg, wrap_in, maxLen, Γ4, g11_eq', e14, e15, e16, e19, e20, e21, e22]; with_reducible rfl)))
      | (apply awp_regf mixedOK hΓ (by kernel_rfl); (focus (simp (disch := omega) only [go_sem, ↓reduceIte, decide_eq_true, decide_eq_false, if_pos, if_neg, wrap_in, maxLen, Γ4, g11_eq', e14, e15, e16, e19, e20, e21, e22]; with_reducible rfl)); (focus (simp only [go_sem]; with_reducible rfl)))
      | (apply awp_regt mixedOK hΓ rfl; (focus kernel_rfl); (focus (simp (disch := omega) only [go_sem, ↓reduceIte, decide_eq_true, decide_eq_false, if_pos, if_neg, wrap_in, maxLen, Γ4, g11_eq', e14, e15, e16, e19, e20, e21, e22]; with_reducible rfl)); (focus (simp only [go_sem]; with_reducible rfl)); (focus (simp (disch := omega) only [go_sem, ↓reduceIte, decide_eq_true, decide_eq_false, if_pos, if_neg, wrap_in, maxLen, Γ4, g11_eq', e14, e15, e16, e19, e20, e21, e22]; with_reducible rfl)))
      | (apply awp_cond_t; (focus (simp (disch := omega) only [go_sem, ↓reduceIte, decide_eq_true, decide_eq_false, if_pos, if_neg, wrap_in, maxLen, Γ4, g11_eq', e14, e15, e16, e19, e20, e21, e22]; done))) | (apply awp_cond_f; (focus (simp (disch := omega) only [go_sem, ↓reduceIte, decide_eq_true, decide_eq_false, if_pos, if_neg, wrap_in, maxLen, Γ4, g11_eq', e14, e15, e16, e19, e20, e21, e22]; done)))
      | (apply ret_e; (focus (simp (disch := omega) only [go_sem, ↓reduceIte, decide_eq_true, decide_eq_false, if_pos, if_neg, wrap_in, maxLen, Γ4, g11_eq', e14, e15, e16, e19, e20, e21, e22]; with_reducible rfl)); (focus (simp (disch := omega) only [go_sem, ↓reduceIte, decide_eq_true, decide_eq_false, if_pos, if_neg, wrap_in, maxLen, Γ4, g11_eq', e14, e15, e16, e19, e20, e21, e22]; with_reducible rfl))) | (apply end_e; (focus (simp (disch := omega) only [go_sem, ↓reduceIte, decide_eq_true, decide_eq_false, if_pos, if_neg, wrap_in, maxLen, Γ4, g11_eq', e14, e15, e16, e19, e20, e21, e22]; with_reducible rfl)); (focus (simp (disch := omega) only [go_sem, ↓reduceIte, decide_eq_true, decide_eq_false, if_pos, if_neg, wrap_in, maxLen, Γ4, g11_eq', e14, e15, e16, e19, e20, e21, e22]; with_reducible rfl)))
      | rfl)
  · have hs : stR r l = .tup [.list [], i64 1] := by simp [stR, h]
    have hd : duR r l = .tup [.list [], i64 1] := by simp [duR, h]
    rw [h] at e22
    rw [hs] at e15
    rw [hd] at e19
    repeat (first
      | refine awp_seq ?_ | refine awp_block ?_ | refine awp_ret ?_ | refine awp_skip ?_ | refine awp_exit ?_ | refine awp_label ?_
      | refine then_normal ?_ | refine then_ret ?_ | refine then_exit ?_ | refine block_normal ?_ | refine block_ret ?_ | refine block_exit ?_ | refine block_out rfl ?_
      | (apply awp_reg hΓ; (focus (simp (disch := omega) only [go_sem, ↓reduceIte, decide_eq_true, decide_eq_false, if_pos, if_neg, wrap_in, maxLen, Γ4, g11_eq', e14, e15, e16, e19, e20n, e21n, e22]; with_reducible rfl)))
      | (apply awp_regf mixedOK hΓ (by kernel_rfl); (focus (simp (disch := omega) only [go_sem, ↓reduceIte, decide_eq_true, decide_eq_false, if_pos, if_neg, wrap_in, maxLen, Γ4, g11_eq', e14, e15, e16, e19, e20n, e21n, e22]; with_reducible rfl)); (focus (simp only [go_sem]; with_reducible rfl)))
      | (apply awp_regt mixedOK hΓ rfl; (focus kernel_rfl); (focus (simp (disch := omega) only [go_sem, ↓reduceIte, decide_eq_true, decide_eq_false, if_pos, if_neg, wrap_in, maxLen, Γ4, g11_eq', e14, e15, e16, e19, e20n, e21n, e22]; with_reducible rfl)); (focus (simp only [go_sem]; with_reducible rfl)); (focus (simp (disch := omega) only [go_sem, ↓reduceIte, decide_eq_true, decide_eq_false, if_pos, if_neg, wrap_in, maxLen, Γ4, g11_eq', e14, e15, e16, e19, e20n, e21n, e22]; with_reducible rfl)))
      | (apply awp_cond_t; (focus (simp (disch := omega) only [go_sem, ↓reduceIte, decide_eq_true, decide_eq_false, if_pos, if_neg, wrap_in, maxLen, Γ4, g11_eq', e14, e15, e16, e19, e20n, e21n, e22]; done))) | (apply awp_cond_f; (focus (simp (disch := omega) only [go_sem, ↓reduceIte, decide_eq_true, decide_eq_false, if_pos, if_neg, wrap_in, maxLen, Γ4, g11_eq', e14, e15, e16, e19, e20n, e21n, e22]; done)))
      | (apply ret_e; (focus (simp (disch := omega) only [go_sem, ↓reduceIte, decide_eq_true, decide_eq_false, if_pos, if_neg, wrap_in, maxLen, Γ4, g11_eq', e14, e15, e16, e19, e20n, e21n, e22]; with_reducible rfl)); (focus (simp (disch := omega) only [go_sem, ↓reduceIte, decide_eq_true, decide_eq_false, if_pos, if_neg, wrap_in, maxLen, Γ4, g11_eq', e14, e15, e16, e19, e20n, e21n, e22]; with_reducible rfl))) | (apply end_e; (focus (simp (disch := omega) only [go_sem, ↓reduceIte, decide_eq_true, decide_eq_false, if_pos, if_neg, wrap_in, maxLen, Γ4, g11_eq', e14, e15, e16, e19, e20n, e21n, e22]; with_reducible rfl)); (focus (simp (disch := omega) only [go_sem, ↓reduceIte, decide_eq_true, decide_eq_false, if_pos, if_neg, wrap_in, maxLen, Γ4, g11_eq', e14, e15, e16, e19, e20n, e21n, e22]; with_reducible rfl)))
      | rfl)
end Go.Ab
