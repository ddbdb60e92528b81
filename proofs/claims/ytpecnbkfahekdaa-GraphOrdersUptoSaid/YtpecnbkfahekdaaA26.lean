/-
  One text of the proof (own work): contracts of functions of the program, by the abstract machine.
-/
import Derived.Test.YtpecnbkfahekdaaA25
import Derived.Test.YtpecnbkfahekdaaAw
set_option linter.unusedVariables false
set_option linter.unusedSimpArgs false
namespace Go.Ab
open Go Go.RowKit Go.Proofs
set_option maxRecDepth 4000
set_option maxHeartbeats 4000000

theorem g10_eq' {g : Graph} (h : Sized g) : g10 [.agg [.list (g.nodes.map .str), .list (g.edges.map eD)]] = some (.bool (few g)) :=
  encSpec_eq (x := g) h fun y hy => by
    simp only [List.cons.injEq, and_true] at hy
    rw [gD_inj hy]
noncomputable def Γ3 : FuncId → Option CSpec := fun f => if f = 9 then some (.pure false g9) else if f = 10 then some (.pure true g10) else if f = 11 then some (.pure false g12) else if f = 12 then some (.pure false g12) else if f = 13 then some (.pure false g13) else if f = 14 then some (.pure false g13) else if f = 15 then some (.pure true g15) else none
theorem Γ3_ok : ∀ f s, Γ3 f = some s → SpecOK Try.prog f s := by
  intro f s h
  unfold Γ3 at h
  split at h
  · rename_i hf; cases h; subst hf; exact f9_ok
  split at h
  · rename_i hf; cases h; subst hf; exact f10_ok
  split at h
  · rename_i hf; cases h; subst hf; exact f11_ok
  split at h
  · rename_i hf; cases h; subst hf; exact f12_ok
  split at h
  · rename_i hf; cases h; subst hf; exact f13_ok
  split at h
  · rename_i hf; cases h; subst hf; exact f14_ok
  split at h
  · rename_i hf; cases h; subst hf; exact f15_ok
  · cases h
noncomputable def g3 : List D → Option D := encSpec (fun g : Graph => [gD g]) (fun g => Sized g) (fun _ => .bool true)
theorem dep_len (g : Graph) : (dep g).length ≤ g.nodes.length := by
  unfold dep
  split
  · rename_i h
    rw [h.choose_spec.1]
    exact Nat.le_refl _
  · simp
theorem f3_ok : PureOK Try.prog 3 true g3 := by
  have hΓ := Γ3_ok
  refine pure_enc (n := 54) (rs := [.tmp 2]) Try.func3 (by kernel_rfl) rfl (by kernel_rfl) (by kernel_rfl) ?_
  rintro g hs
  refine ⟨fun _ => .bool _, fun c hz0 => ?_⟩
  have e10 := g10_eq' hs
  have e12 := g12_eq hs
  have e13 := g13_eq hs
  have e15n := g15_eq (a := []) (b := []) (by simp)
  simp only [List.map_nil, beq_self_eq_true] at e15n
  rw [orderR_eq] at e12
  unfold depR at e13
  simp only [start, go_sem, emptyH, List.replicate_succ, List.replicate_zero]
  cases hf : few g with
  | false =>
    rw [hf] at e10
    repeat (first
      | refine awp_seq ?_ | refine awp_block ?_ | refine awp_ret ?_ | refine awp_skip ?_ | refine awp_exit ?_ | refine awp_label ?_
      | refine then_normal ?_ | refine then_ret ?_ | refine then_exit ?_ | refine block_normal ?_ | refine block_ret ?_ | refine block_exit ?_ | refine block_out rfl ?_
      | (apply awp_reg hΓ; (focus (simp (disch := omega) only [go_sem, decide_eq_true, decide_eq_false, if_pos, if_neg, wrap_in, maxLen, Γ3, g9_eq, e10]; with_reducible rfl)))
      | (apply awp_regf mixedOK hΓ (by kernel_rfl); (focus (simp (disch := omega) only [go_sem, decide_eq_true, decide_eq_false, if_pos, if_neg, wrap_in, maxLen, Γ3, g9_eq, e10]; with_reducible rfl)); (focus (simp only [go_sem]; with_reducible rfl)))
      | (apply awp_regt mixedOK hΓ rfl; (focus kernel_rfl); (focus (simp (disch := omega) only [go_sem, decide_eq_true, decide_eq_false, if_pos, if_neg, wrap_in, maxLen, Γ3, g9_eq, e10]; with_reducible rfl)); (focus (simp only [go_sem]; with_reducible rfl)); (focus (simp (disch := omega) only [go_sem, decide_eq_true, decide_eq_false, if_pos, if_neg, wrap_in, maxLen, Γ3, g9_eq, e10]; with_reducible rfl)))
      | (apply awp_cond_t; (focus (simp (disch := omega) only [go_sem, decide_eq_true, decide_eq_false, if_pos, if_neg, wrap_in, maxLen, Γ3, g9_eq, e10]; done))) | (apply awp_cond_f; (focus (simp (disch := omega) only [go_sem, decide_eq_true, decide_eq_false, if_pos, if_neg, wrap_in, maxLen, Γ3, g9_eq, e10]; done)))
      | (apply ret_e; (focus (simp (disch := omega) only [go_sem, decide_eq_true, decide_eq_false, if_pos, if_neg, wrap_in, maxLen, Γ3, g9_eq, e10]; with_reducible rfl)); (focus (simp (disch := omega) only [go_sem, decide_eq_true, decide_eq_false, if_pos, if_neg, wrap_in, maxLen, Γ3, g9_eq, e10]; with_reducible rfl))) | (apply end_e; (focus (simp (disch := omega) only [go_sem, decide_eq_true, decide_eq_false, if_pos, if_neg, wrap_in, maxLen, Γ3, g9_eq, e10]; with_reducible rfl)); (focus (simp (disch := omega) only [go_sem, decide_eq_true, decide_eq_false, if_pos, if_neg, wrap_in, maxLen, Γ3, g9_eq, e10]; with_reducible rfl)))
      | rfl)
  | true =>
    rw [hf] at e10
    by_cases hc0 : chk g = 0
    · rw [if_pos hc0] at e12 e13
      have hfit := chk_fit hc0
      have hn := hfit.nodes
      cases hol : ordL g with
      | none =>
        rw [hol] at e12 e13
        repeat (first
          | refine awp_seq ?_ | refine awp_block ?_ | refine awp_ret ?_ | refine awp_skip ?_ | refine awp_exit ?_ | refine awp_label ?_
          | refine then_normal ?_ | refine then_ret ?_ | refine then_exit ?_ | refine block_normal ?_ | refine block_ret ?_ | refine block_exit ?_ | refine block_out rfl ?_
          | (apply awp_reg hΓ; (focus (simp (disch := omega) only [go_sem, decide_eq_true, decide_eq_false, if_pos, if_neg, wrap_in, maxLen, Γ3, g9_eq, e10, e12, e13, e15n]; with_reducible rfl)))
          | (apply awp_regf mixedOK hΓ (by kernel_rfl); (focus (simp (disch := omega) only [go_sem, decide_eq_true, decide_eq_false, if_pos, if_neg, wrap_in, maxLen, Γ3, g9_eq, e10, e12, e13, e15n]; with_reducible rfl)); (focus (simp only [go_sem]; with_reducible rfl)))
          | (apply awp_regt mixedOK hΓ rfl; (focus kernel_rfl); (focus (simp (disch := omega) only [go_sem, decide_eq_true, decide_eq_false, if_pos, if_neg, wrap_in, maxLen, Γ3, g9_eq, e10, e12, e13, e15n]; with_reducible rfl)); (focus (simp only [go_sem]; with_reducible rfl)); (focus (simp (disch := omega) only [go_sem, decide_eq_true, decide_eq_false, if_pos, if_neg, wrap_in, maxLen, Γ3, g9_eq, e10, e12, e13, e15n]; with_reducible rfl)))
          | (apply awp_cond_t; (focus (simp (disch := omega) only [go_sem, decide_eq_true, decide_eq_false, if_pos, if_neg, wrap_in, maxLen, Γ3, g9_eq, e10, e12, e13, e15n]; done))) | (apply awp_cond_f; (focus (simp (disch := omega) only [go_sem, decide_eq_true, decide_eq_false, if_pos, if_neg, wrap_in, maxLen, Γ3, g9_eq, e10, e12, e13, e15n]; done)))
          | (apply ret_e; (focus (simp (disch := omega) only [go_sem, decide_eq_true, decide_eq_false, if_pos, if_neg, wrap_in, maxLen, Γ3, g9_eq, e10, e12, e13, e15n]; with_reducible rfl)); (focus (simp (disch := omega) only [go_sem, decide_eq_true, decide_eq_false, if_pos, if_neg, wrap_in, maxLen, Γ3, g9_eq, e10, e12, e13, e15n]; with_reducible rfl))) | (apply end_e; (focus (simp (disch := omega) only [go_sem, decide_eq_true, decide_eq_false, if_pos, if_neg, wrap_in, maxLen, Γ3, g9_eq, e10, e12, e13, e15n]; with_reducible rfl)); (focus (simp (disch := omega) only [go_sem, decide_eq_true, decide_eq_false, if_pos, if_neg, wrap_in, maxLen, Γ3, g9_eq, e10, e12, e13, e15n]; with_reducible rfl)))
          | rfl)
      | some l =>
        rw [hol] at e12 e13
        obtain ⟨hto, hll⟩ := ordL_topo hfit.inr hol
        have hdl := dep_len g
        have e15a := g15_eq (a := l) (b := l) (by omega)
        have e15b := g15_eq (a := dep g) (b := dep g) (by omega)
        rw [beq_self_eq_true] at e15a e15b
        repeat (first
          | refine awp_seq ?_ | refine awp_block ?_ | refine awp_ret ?_ | refine awp_skip ?_ | refine awp_exit ?_ | refine awp_label ?_
          | refine then_normal ?_ | refine then_ret ?_ | refine then_exit ?_ | refine block_normal ?_ | refine block_ret ?_ | refine block_exit ?_ | refine block_out rfl ?_
          | (apply awp_reg hΓ; (focus (simp (disch := omega) only [go_sem, decide_eq_true, decide_eq_false, if_pos, if_neg, wrap_in, maxLen, Γ3, g9_eq, e10, e12, e13, e15a, e15b, ints]; with_reducible rfl)))
          | (apply awp_regf mixedOK hΓ (by kernel_rfl); (focus (simp (disch := omega) only [go_sem, decide_eq_true, decide_eq_false, if_pos, if_neg, wrap_in, maxLen, Γ3, g9_eq, e10, e12, e13, e15a, e15b, ints]; with_reducible rfl)); (focus (simp only [go_sem]; with_reducible rfl)))
          | (apply awp_regt mixedOK hΓ rfl; (focus kernel_rfl); (focus (simp (disch := omega) only [go_sem, decide_eq_true, decide_eq_false, if_pos, if_neg, wrap_in, maxLen, Γ3, g9_eq, e10, e12, e13, e15a, e15b, ints]; with_reducible rfl)); (focus (simp only [go_sem]; with_reducible rfl)); (focus (simp (disch := omega) only [go_sem, decide_eq_true, decide_eq_false, if_pos, if_neg, wrap_in, maxLen, Γ3, g9_eq, e10, e12, e13, e15a, e15b, ints]; with_reducible rfl)))
          | (apply awp_cond_t; (focus (simp (disch := omega) only [go_sem, decide_eq_true, decide_eq_false, if_pos, if_neg, wrap_in, maxLen, Γ3, g9_eq, e10, e12, e13, e15a, e15b, ints]; done))) | (apply awp_cond_f; (focus (simp (disch := omega) only [go_sem, decide_eq_true, decide_eq_false, if_pos, if_neg, wrap_in, maxLen, Γ3, g9_eq, e10, e12, e13, e15a, e15b, ints]; done)))
          | (apply ret_e; (focus (simp (disch := omega) only [go_sem, decide_eq_true, decide_eq_false, if_pos, if_neg, wrap_in, maxLen, Γ3, g9_eq, e10, e12, e13, e15a, e15b, ints]; with_reducible rfl)); (focus (simp (disch := omega) only [go_sem, decide_eq_true, decide_eq_false, if_pos, if_neg, wrap_in, maxLen, Γ3, g9_eq, e10, e12, e13, e15a, e15b, ints]; with_reducible rfl))) | (apply end_e; (focus (simp (disch := omega) only [go_sem, decide_eq_true, decide_eq_false, if_pos, if_neg, wrap_in, maxLen, Γ3, g9_eq, e10, e12, e13, e15a, e15b, ints]; with_reducible rfl)); (focus (simp (disch := omega) only [go_sem, decide_eq_true, decide_eq_false, if_pos, if_neg, wrap_in, maxLen, Γ3, g9_eq, e10, e12, e13, e15a, e15b, ints]; with_reducible rfl)))
          | rfl)
    · rw [if_neg hc0] at e12 e13
      repeat (first
        | refine awp_seq ?_ | refine awp_block ?_ | refine awp_ret ?_ | refine awp_skip ?_ | refine awp_exit ?_ | refine awp_label ?_
        | refine then_normal ?_ | refine then_ret ?_ | refine then_exit ?_ | refine block_normal ?_ | refine block_ret ?_ | refine block_exit ?_ | refine block_out rfl ?_
        | (apply awp_reg hΓ; (focus (simp (disch := omega) only [go_sem, decide_eq_true, decide_eq_false, if_pos, if_neg, wrap_in, maxLen, Γ3, g9_eq, e10, e12, e13, e15n]; with_reducible rfl)))
        | (apply awp_regf mixedOK hΓ (by kernel_rfl); (focus (simp (disch := omega) only [go_sem, decide_eq_true, decide_eq_false, if_pos, if_neg, wrap_in, maxLen, Γ3, g9_eq, e10, e12, e13, e15n]; with_reducible rfl)); (focus (simp only [go_sem]; with_reducible rfl)))
        | (apply awp_regt mixedOK hΓ rfl; (focus kernel_rfl); (focus (simp (disch := omega) only [go_sem, decide_eq_true, decide_eq_false, if_pos, if_neg, wrap_in, maxLen, Γ3, g9_eq, e10, e12, e13, e15n]; with_reducible rfl)); (focus (simp only [go_sem]; with_reducible rfl)); (focus (simp (disch := omega) only [go_sem, decide_eq_true, decide_eq_false, if_pos, if_neg, wrap_in, maxLen, Γ3, g9_eq, e10, e12, e13, e15n]; with_reducible rfl)))
        | (apply awp_cond_t; (focus (simp (disch := omega) only [go_sem, decide_eq_true, decide_eq_false, if_pos, if_neg, wrap_in, maxLen, Γ3, g9_eq, e10, e12, e13, e15n]; done))) | (apply awp_cond_f; (focus (simp (disch := omega) only [go_sem, decide_eq_true, decide_eq_false, if_pos, if_neg, wrap_in, maxLen, Γ3, g9_eq, e10, e12, e13, e15n]; done)))
        | (apply ret_e; (focus (simp (disch := omega) only [go_sem, decide_eq_true, decide_eq_false, if_pos, if_neg, wrap_in, maxLen, Γ3, g9_eq, e10, e12, e13, e15n]; with_reducible rfl)); (focus (simp (disch := omega) only [go_sem, decide_eq_true, decide_eq_false, if_pos, if_neg, wrap_in, maxLen, Γ3, g9_eq, e10, e12, e13, e15n]; with_reducible rfl))) | (apply end_e; (focus (simp (disch := omega) only [go_sem, decide_eq_true, decide_eq_false, if_pos, if_neg, wrap_in, maxLen, Γ3, g9_eq, e10, e12, e13, e15n]; with_reducible rfl)); (focus (simp (disch := omega) only [go_sem, decide_eq_true, decide_eq_false, if_pos, if_neg, wrap_in, maxLen, Γ3, g9_eq, e10, e12, e13, e15n]; with_reducible rfl)))
        | rfl)
end Go.Ab
