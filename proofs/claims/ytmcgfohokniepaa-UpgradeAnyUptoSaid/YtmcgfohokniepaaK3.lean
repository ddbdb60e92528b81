/-
  One text of the proof (own work): contracts of functions of the program, by the abstract machine.
-/
import Derived.Test.YtmcgfohokniepaaK2
set_option linter.unusedVariables false
set_option linter.unusedSimpArgs false
namespace Go.Ab
open Go Go.RowKit Go.Proofs
set_option maxRecDepth 4000
set_option maxHeartbeats 4000000

/-! ### All rounds -/
def permTo (s : List Int) (k : Nat) : List Int := (List.range k).foldl (fun s i => round s (constAt i)) s
theorem permTo_zero (s : List Int) : permTo s 0 = s := rfl
theorem permTo_succ (s : List Int) (k : Nat) : permTo s (k + 1) = round (permTo s k) (constAt k) := by simp [permTo, List.range_succ]
theorem permTo_len {s : List Int} (h : s.length = 25) (k : Nat) : (permTo s k).length = 25 := by
  cases k with
  | zero => exact h
  | succ k => rw [permTo_succ, round_len]
noncomputable def g82 : List D → Option D := encSpec (fun s : List Int => [.agg (s.map u64)]) (fun s => s.length = 25) (fun s => .agg ((permTo s 24).map u64))
theorem g82_eq {s : List Int} (h : s.length = 25) : g82 [.agg (s.map u64)] = some (.agg ((permTo s 24).map u64)) := encSpec_eq (x := s) h fun y hy => by
  simp only [List.cons.injEq, and_true, D.agg.injEq] at hy
  rw [u64_map_inj hy]
noncomputable def Γm : FuncId → Option CSpec := fun f => if f = 108 then some (.pure true g108) else if f = 107 then some (.pure true g107) else none
theorem Γm_ok : ∀ f s, Γm f = some s → SpecOK Try.prog f s := by
  intro f s h
  unfold Γm at h
  split at h
  · rename_i hf; cases h; subst hf; exact f108_ok
  split at h
  · rename_i hf; cases h; subst hf; exact f107_ok
  · cases h
theorem f82_ok : PureOK Try.prog 82 true g82 := by
  have hΓ := Γm_ok
  refine pure_enc (n := 13) (rs := [.cell 2 135]) Try.func82 (by kernel_rfl) rfl (by kernel_rfl) (by kernel_rfl) ?_
  intro s hs
  refine ⟨fun _ => flatU _, fun c hz0 => ?_⟩
  have hz25 : (zer 25).length = 25 := rfl
  rw [start_frame (by simp)]; simp only [enumV, go_sem, emptyH]
  repeat (first
    | refine awp_seq ?_ | refine awp_block ?_ | refine awp_ret ?_ | refine awp_skip ?_ | refine awp_exit ?_ | refine awp_label ?_
    | refine then_normal ?_ | refine then_ret ?_ | refine then_exit ?_ | refine block_normal ?_ | refine block_ret ?_ | refine block_exit ?_ | refine block_out rfl ?_
    | (apply awp_reg hΓ; (focus (simp (disch := omega) only [go_sem, ↓reduceIte, ↓map_lit, ↓List.map_cons, ↓List.map_nil, decide_eq_true, decide_eq_false, if_pos, if_neg, wrap_in, maxLen, ↓cells_arr]; with_reducible rfl)))
    | (apply awp_regf mixedOK hΓ (by kernel_rfl); (focus (simp (disch := omega) only [go_sem, ↓reduceIte, ↓map_lit, ↓List.map_cons, ↓List.map_nil, decide_eq_true, decide_eq_false, if_pos, if_neg, wrap_in, maxLen, ↓cells_arr]; with_reducible rfl)); (focus (simp only [go_sem]; with_reducible rfl)))
    | (apply awp_regt mixedOK hΓ rfl; (focus kernel_rfl); (focus (simp (disch := omega) only [go_sem, ↓reduceIte, ↓map_lit, ↓List.map_cons, ↓List.map_nil, decide_eq_true, decide_eq_false, if_pos, if_neg, wrap_in, maxLen, ↓cells_arr]; with_reducible rfl)); (focus (simp only [go_sem]; with_reducible rfl)); (focus (simp (disch := omega) only [go_sem, ↓reduceIte, ↓map_lit, ↓List.map_cons, ↓List.map_nil, decide_eq_true, decide_eq_false, if_pos, if_neg, wrap_in, maxLen, ↓cells_arr]; with_reducible rfl)))
    | (apply awp_cond_t; (focus (simp (disch := omega) only [go_sem, ↓reduceIte, ↓map_lit, ↓List.map_cons, ↓List.map_nil, decide_eq_true, decide_eq_false, if_pos, if_neg, wrap_in, maxLen, ↓cells_arr]; done))) | (apply awp_cond_f; (focus (simp (disch := omega) only [go_sem, ↓reduceIte, ↓map_lit, ↓List.map_cons, ↓List.map_nil, decide_eq_true, decide_eq_false, if_pos, if_neg, wrap_in, maxLen, ↓cells_arr]; done)))
    | (apply ret_e; (focus (simp (disch := omega) only [go_sem, ↓reduceIte, ↓map_lit, ↓List.map_cons, ↓List.map_nil, decide_eq_true, decide_eq_false, if_pos, if_neg, wrap_in, maxLen, ↓cells_arr]; with_reducible rfl)); (focus (simp (disch := omega) only [go_sem, ↓reduceIte, ↓map_lit, ↓List.map_cons, ↓List.map_nil, decide_eq_true, decide_eq_false, if_pos, if_neg, wrap_in, maxLen, ↓cells_arr]; with_reducible rfl))) | (apply end_e; (focus (simp (disch := omega) only [go_sem, ↓reduceIte, ↓map_lit, ↓List.map_cons, ↓List.map_nil, decide_eq_true, decide_eq_false, if_pos, if_neg, wrap_in, maxLen, ↓cells_arr]; with_reducible rfl)); (focus (simp (disch := omega) only [go_sem, ↓reduceIte, ↓map_lit, ↓List.map_cons, ↓List.map_nil, decide_eq_true, decide_eq_false, if_pos, if_neg, wrap_in, maxLen, ↓cells_arr]; with_reducible rfl)))
    | rfl)
  refine awp_loop_at (X := Nat) (fun x => (frame 13 [(1, .ptr 0 0), (2, .ptr 1 0), (3, .data (i64 x))]))
    (fun x => [(0, .box ((permTo s x).map U)), (1, .box ((zer 25).map U))]) 2
    (fun x => x ≤ 24) (fun x => 24 - x) 0 (Nat.zero_le _) (Weak.ofF (by omega) (by simp [ConvF, lookV, Conv, ints, refsU, U_data, zer25, permTo_zero]) (by (simp (disch := omega) only [TabSub, look, if_pos, if_neg, Obj.refsOK, refsOKs, AV.refsOK, decide_eq_true_eq, Bool.and_true, Bool.and_self, refsU, U_data, zer25, permTo_zero] ) <;> ((repeat' apply And.intro) <;> first | exact True.intro | omega | (simp; done) | rfl)) (by simp (disch := omega) only [refsF, AV.refsOK, Bool.and_true, Bool.and_self, decide_eq_true_eq, Bool.true_and, Bool.and_eq_true]; try omega)) ?_
  intro x hx
  have hpl := permTo_len hs x
  by_cases hx5 : x < 24
  · have e108 := g108_eq hx5
    have e107 := g107_eq (c := constAt x) hpl
    rw [← permTo_succ] at e107
    have hpl2 := permTo_len hs (x + 1)
    repeat (first
      | refine awp_seq ?_ | refine awp_block ?_ | refine awp_ret ?_ | refine awp_skip ?_ | refine awp_exit ?_ | refine awp_label ?_
      | refine then_normal ?_ | refine then_ret ?_ | refine then_exit ?_ | refine block_normal ?_ | refine block_ret ?_ | refine block_exit ?_ | refine block_out rfl ?_
      | (apply awp_reg hΓ; (focus (simp (disch := omega) only [go_sem, ↓reduceIte, decide_eq_true, decide_eq_false, if_pos, if_neg, wrap_in, maxLen, Γm, ↓load_arr, lay_arr, U_data, e108, e107]; with_reducible rfl)))
      | (apply awp_regf mixedOK hΓ (by kernel_rfl); (focus (simp (disch := omega) only [go_sem, ↓reduceIte, decide_eq_true, decide_eq_false, if_pos, if_neg, wrap_in, maxLen, Γm, ↓load_arr, lay_arr, U_data, e108, e107]; with_reducible rfl)); (focus (simp only [go_sem]; with_reducible rfl)))
      | (apply awp_regt mixedOK hΓ rfl; (focus kernel_rfl); (focus (simp (disch := omega) only [go_sem, ↓reduceIte, decide_eq_true, decide_eq_false, if_pos, if_neg, wrap_in, maxLen, Γm, ↓load_arr, lay_arr, U_data, e108, e107]; with_reducible rfl)); (focus (simp only [go_sem]; with_reducible rfl)); (focus (simp (disch := omega) only [go_sem, ↓reduceIte, decide_eq_true, decide_eq_false, if_pos, if_neg, wrap_in, maxLen, Γm, ↓load_arr, lay_arr, U_data, e108, e107]; with_reducible rfl)))
      | (apply awp_cond_t; (focus (simp (disch := omega) only [go_sem, ↓reduceIte, decide_eq_true, decide_eq_false, if_pos, if_neg, wrap_in, maxLen, Γm, ↓load_arr, lay_arr, U_data, e108, e107]; done))) | (apply awp_cond_f; (focus (simp (disch := omega) only [go_sem, ↓reduceIte, decide_eq_true, decide_eq_false, if_pos, if_neg, wrap_in, maxLen, Γm, ↓load_arr, lay_arr, U_data, e108, e107]; done)))
      | (apply ret_e; (focus (simp (disch := omega) only [go_sem, ↓reduceIte, decide_eq_true, decide_eq_false, if_pos, if_neg, wrap_in, maxLen, Γm, ↓load_arr, lay_arr, U_data, e108, e107]; with_reducible rfl)); (focus (simp (disch := omega) only [go_sem, ↓reduceIte, decide_eq_true, decide_eq_false, if_pos, if_neg, wrap_in, maxLen, Γm, ↓load_arr, lay_arr, U_data, e108, e107]; with_reducible rfl))) | (apply end_e; (focus (simp (disch := omega) only [go_sem, ↓reduceIte, decide_eq_true, decide_eq_false, if_pos, if_neg, wrap_in, maxLen, Γm, ↓load_arr, lay_arr, U_data, e108, e107]; with_reducible rfl)); (focus (simp (disch := omega) only [go_sem, ↓reduceIte, decide_eq_true, decide_eq_false, if_pos, if_neg, wrap_in, maxLen, Γm, ↓load_arr, lay_arr, U_data, e108, e107]; with_reducible rfl)))
      | rfl)
    exact ⟨x + 1, by omega, by omega, Weak.ofF (by omega) (by simp [ConvF, lookV, Conv, ints, refsU]) (by (simp (disch := omega) only [TabSub, look, if_pos, if_neg, Obj.refsOK, refsOKs, AV.refsOK, decide_eq_true_eq, Bool.and_true, Bool.and_self, refsU] ) <;> ((repeat' apply And.intro) <;> first | exact True.intro | omega | (simp; done) | rfl)) (by simp (disch := omega) only [refsF, AV.refsOK, Bool.and_true, Bool.and_self, decide_eq_true_eq, Bool.true_and, Bool.and_eq_true]; try omega)⟩
  have hx6 : x = 24 := by omega
  subst hx6
  repeat (first
    | refine awp_seq ?_ | refine awp_block ?_ | refine awp_ret ?_ | refine awp_skip ?_ | refine awp_exit ?_ | refine awp_label ?_
    | refine then_normal ?_ | refine then_ret ?_ | refine then_exit ?_ | refine block_normal ?_ | refine block_ret ?_ | refine block_exit ?_ | refine block_out rfl ?_
    | (apply awp_reg hΓ; (focus (simp (disch := omega) only [go_sem, ↓reduceIte, decide_eq_true, decide_eq_false, if_pos, if_neg, wrap_in, maxLen, ↓load_arr, lay_arr, U_data]; with_reducible rfl)))
    | (apply awp_regf mixedOK hΓ (by kernel_rfl); (focus (simp (disch := omega) only [go_sem, ↓reduceIte, decide_eq_true, decide_eq_false, if_pos, if_neg, wrap_in, maxLen, ↓load_arr, lay_arr, U_data]; with_reducible rfl)); (focus (simp only [go_sem]; with_reducible rfl)))
    | (apply awp_regt mixedOK hΓ rfl; (focus kernel_rfl); (focus (simp (disch := omega) only [go_sem, ↓reduceIte, decide_eq_true, decide_eq_false, if_pos, if_neg, wrap_in, maxLen, ↓load_arr, lay_arr, U_data]; with_reducible rfl)); (focus (simp only [go_sem]; with_reducible rfl)); (focus (simp (disch := omega) only [go_sem, ↓reduceIte, decide_eq_true, decide_eq_false, if_pos, if_neg, wrap_in, maxLen, ↓load_arr, lay_arr, U_data]; with_reducible rfl)))
    | (apply awp_cond_t; (focus (simp (disch := omega) only [go_sem, ↓reduceIte, decide_eq_true, decide_eq_false, if_pos, if_neg, wrap_in, maxLen, ↓load_arr, lay_arr, U_data]; done))) | (apply awp_cond_f; (focus (simp (disch := omega) only [go_sem, ↓reduceIte, decide_eq_true, decide_eq_false, if_pos, if_neg, wrap_in, maxLen, ↓load_arr, lay_arr, U_data]; done)))
    | (apply ret_e; (focus (simp (disch := omega) only [go_sem, ↓reduceIte, decide_eq_true, decide_eq_false, if_pos, if_neg, wrap_in, maxLen, ↓load_arr, lay_arr, U_data]; with_reducible rfl)); (focus (simp (disch := omega) only [go_sem, ↓reduceIte, decide_eq_true, decide_eq_false, if_pos, if_neg, wrap_in, maxLen, ↓load_arr, lay_arr, U_data]; with_reducible rfl))) | (apply end_e; (focus (simp (disch := omega) only [go_sem, ↓reduceIte, decide_eq_true, decide_eq_false, if_pos, if_neg, wrap_in, maxLen, ↓load_arr, lay_arr, U_data]; with_reducible rfl)); (focus (simp (disch := omega) only [go_sem, ↓reduceIte, decide_eq_true, decide_eq_false, if_pos, if_neg, wrap_in, maxLen, ↓load_arr, lay_arr, U_data]; with_reducible rfl)))
    | rfl)
end Go.Ab
