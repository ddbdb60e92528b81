/-
  One text of the proof (own work): contracts of functions of the program, by the abstract machine.
-/
import Derived.Test.YtpecnbkfahekdaaA30
import Derived.Test.YtpecnbkfahekdaaAw
set_option linter.unusedVariables false
set_option linter.unusedSimpArgs false
namespace Go.Ab
open Go Go.RowKit Go.Proofs
set_option maxRecDepth 4000
set_option maxHeartbeats 4000000

theorem g10_eq7 {g : Graph} (h : Sized g) : g10 [.agg [.list (g.nodes.map .str), .list (g.edges.map eD)]] = some (.bool (few g)) :=
  encSpec_eq (x := g) h fun y hy => by
    simp only [List.cons.injEq, and_true] at hy
    rw [gD_inj hy]
noncomputable def Γ7 : FuncId → Option CSpec := fun f => if f = 9 then some (.pure false g9) else if f = 10 then some (.pure true g10) else if f = 22 then some (.pure false g25) else if f = 25 then some (.pure false g25) else if f = 26 then some (.pure false g27) else if f = 27 then some (.pure false g27) else if f = 15 then some (.pure true g15) else none
theorem Γ7_ok : ∀ f s, Γ7 f = some s → SpecOK Try.prog f s := by
  intro f s h
  unfold Γ7 at h
  split at h
  · rename_i hf; cases h; subst hf; exact f9_ok
  split at h
  · rename_i hf; cases h; subst hf; exact f10_ok
  split at h
  · rename_i hf; cases h; subst hf; exact f22_ok
  split at h
  · rename_i hf; cases h; subst hf; exact f25_ok
  split at h
  · rename_i hf; cases h; subst hf; exact f26_ok
  split at h
  · rename_i hf; cases h; subst hf; exact f27_ok
  split at h
  · rename_i hf; cases h; subst hf; exact f15_ok
  · cases h
theorem reach_len (g : Graph) (a : Int) : (reach g a).length ≤ 1024 := by
  unfold reach
  split
  · rename_i h
    have := sieve_len g.nodes.length (fun i => leads g a i)
    have := (valid_of h).1.nodes
    omega
  · simp
theorem back_len (g : Graph) (a : Int) : (Ab.back g a).length ≤ 1024 := by
  unfold Ab.back
  split
  · rename_i h
    have := sieve_len g.nodes.length (fun i => leads g i a)
    have := (valid_of h).1.nodes
    omega
  · simp
noncomputable def g7 : List D → Option D := encSpec (fun x : Graph × Int => [gD x.1, i64 x.2]) (fun x => Sized x.1) (fun _ => .bool true)
theorem f7_ok : PureOK Try.prog 7 true g7 := by
  have hΓ := Γ7_ok
  refine pure_enc (n := 26) (rs := [.tmp 4]) Try.func7 (by kernel_rfl) rfl (by kernel_rfl) (by kernel_rfl) ?_
  rintro ⟨g, a⟩ hs
  dsimp only at hs
  refine ⟨fun _ => .bool _, fun c hz0 => ?_⟩
  have e10 := g10_eq7 hs
  have e25 := g25_eq (a := a) hs
  have e27 := g27_eq (a := a) hs
  have hrl := reach_len g a
  have hbl := back_len g a
  have e15a := g15_eq (a := reach g a) (b := reach g a) (by omega)
  have e15b := g15_eq (a := Ab.back g a) (b := Ab.back g a) (by omega)
  rw [beq_self_eq_true] at e15a e15b
  generalize reach g a = l at e25 e15a hrl
  generalize Ab.back g a = r at e27 e15b hbl
  simp only [start, go_sem, emptyH, List.replicate_succ, List.replicate_zero]
  cases hf : few g with
  | false =>
    rw [hf] at e10
    repeat (first
      | refine awp_seq ?_ | refine awp_block ?_ | refine awp_ret ?_ | refine awp_skip ?_ | refine awp_exit ?_ | refine awp_label ?_
      | refine then_normal ?_ | refine then_ret ?_ | refine then_exit ?_ | refine block_normal ?_ | refine block_ret ?_ | refine block_exit ?_ | refine block_out rfl ?_
      | (apply awp_reg hΓ; (focus (simp (disch := omega) only [go_sem, decide_eq_true, decide_eq_false, if_pos, if_neg, wrap_in, maxLen, Γ7, g9_eq, e10]; with_reducible rfl)))
      | (apply awp_regf mixedOK hΓ (by kernel_rfl); (focus (simp (disch := omega) only [go_sem, decide_eq_true, decide_eq_false, if_pos, if_neg, wrap_in, maxLen, Γ7, g9_eq, e10]; with_reducible rfl)); (focus (simp only [go_sem]; with_reducible rfl)))
      | (apply awp_regt mixedOK hΓ rfl; (focus kernel_rfl); (focus (simp (disch := omega) only [go_sem, decide_eq_true, decide_eq_false, if_pos, if_neg, wrap_in, maxLen, Γ7, g9_eq, e10]; with_reducible rfl)); (focus (simp only [go_sem]; with_reducible rfl)); (focus (simp (disch := omega) only [go_sem, decide_eq_true, decide_eq_false, if_pos, if_neg, wrap_in, maxLen, Γ7, g9_eq, e10]; with_reducible rfl)))
      | (apply awp_cond_t; (focus (simp (disch := omega) only [go_sem, decide_eq_true, decide_eq_false, if_pos, if_neg, wrap_in, maxLen, Γ7, g9_eq, e10]; done))) | (apply awp_cond_f; (focus (simp (disch := omega) only [go_sem, decide_eq_true, decide_eq_false, if_pos, if_neg, wrap_in, maxLen, Γ7, g9_eq, e10]; done)))
      | (apply ret_e; (focus (simp (disch := omega) only [go_sem, decide_eq_true, decide_eq_false, if_pos, if_neg, wrap_in, maxLen, Γ7, g9_eq, e10]; with_reducible rfl)); (focus (simp (disch := omega) only [go_sem, decide_eq_true, decide_eq_false, if_pos, if_neg, wrap_in, maxLen, Γ7, g9_eq, e10]; with_reducible rfl))) | (apply end_e; (focus (simp (disch := omega) only [go_sem, decide_eq_true, decide_eq_false, if_pos, if_neg, wrap_in, maxLen, Γ7, g9_eq, e10]; with_reducible rfl)); (focus (simp (disch := omega) only [go_sem, decide_eq_true, decide_eq_false, if_pos, if_neg, wrap_in, maxLen, Γ7, g9_eq, e10]; with_reducible rfl)))
      | rfl)
  | true =>
    rw [hf] at e10
    repeat (first
      | refine awp_seq ?_ | refine awp_block ?_ | refine awp_ret ?_ | refine awp_skip ?_ | refine awp_exit ?_ | refine awp_label ?_
      | refine then_normal ?_ | refine then_ret ?_ | refine then_exit ?_ | refine block_normal ?_ | refine block_ret ?_ | refine block_exit ?_ | refine block_out rfl ?_
      | (apply awp_reg hΓ; (focus (simp (disch := omega) only [go_sem, decide_eq_true, decide_eq_false, if_pos, if_neg, wrap_in, maxLen, Γ7, g9_eq, e10, e25, e27, e15a, e15b, ints]; with_reducible rfl)))
      | (apply awp_regf mixedOK hΓ (by kernel_rfl); (focus (simp (disch := omega) only [go_sem, decide_eq_true, decide_eq_false, if_pos, if_neg, wrap_in, maxLen, Γ7, g9_eq, e10, e25, e27, e15a, e15b, ints]; with_reducible rfl)); (focus (simp only [go_sem]; with_reducible rfl)))
      | (apply awp_regt mixedOK hΓ rfl; (focus kernel_rfl); (focus (simp (disch := omega) only [go_sem, decide_eq_true, decide_eq_false, if_pos, if_neg, wrap_in, maxLen, Γ7, g9_eq, e10, e25, e27, e15a, e15b, ints]; with_reducible rfl)); (focus (simp only [go_sem]; with_reducible rfl)); (focus (simp (disch := omega) only [go_sem, decide_eq_true, decide_eq_false, if_pos, if_neg, wrap_in, maxLen, Γ7, g9_eq, e10, e25, e27, e15a, e15b, ints]; with_reducible rfl)))
      | (apply awp_cond_t; (focus (simp (disch := omega) only [go_sem, decide_eq_true, decide_eq_false, if_pos, if_neg, wrap_in, maxLen, Γ7, g9_eq, e10, e25, e27, e15a, e15b, ints]; done))) | (apply awp_cond_f; (focus (simp (disch := omega) only [go_sem, decide_eq_true, decide_eq_false, if_pos, if_neg, wrap_in, maxLen, Γ7, g9_eq, e10, e25, e27, e15a, e15b, ints]; done)))
      | (apply ret_e; (focus (simp (disch := omega) only [go_sem, decide_eq_true, decide_eq_false, if_pos, if_neg, wrap_in, maxLen, Γ7, g9_eq, e10, e25, e27, e15a, e15b, ints]; with_reducible rfl)); (focus (simp (disch := omega) only [go_sem, decide_eq_true, decide_eq_false, if_pos, if_neg, wrap_in, maxLen, Γ7, g9_eq, e10, e25, e27, e15a, e15b, ints]; with_reducible rfl))) | (apply end_e; (focus (simp (disch := omega) only [go_sem, decide_eq_true, decide_eq_false, if_pos, if_neg, wrap_in, maxLen, Γ7, g9_eq, e10, e25, e27, e15a, e15b, ints]; with_reducible rfl)); (focus (simp (disch := omega) only [go_sem, decide_eq_true, decide_eq_false, if_pos, if_neg, wrap_in, maxLen, Γ7, g9_eq, e10, e25, e27, e15a, e15b, ints]; with_reducible rfl)))
      | rfl)
end Go.Ab
