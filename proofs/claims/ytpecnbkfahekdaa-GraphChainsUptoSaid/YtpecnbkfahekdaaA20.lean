/-
  One text of the proof (own work): contracts of functions of the program, by the abstract machine.
-/
import Derived.Test.YtpecnbkfahekdaaA19
import Derived.Test.YtpecnbkfahekdaaAw
set_option linter.unusedVariables false
set_option linter.unusedSimpArgs false
namespace Go.Ab
open Go Go.RowKit Go.Proofs
set_option maxRecDepth 4000
set_option maxHeartbeats 4000000

theorem chainD_len (g : Graph) (d : List Int) : ∀ (k : Nat) (a : Int), (chainD g d k a).length = k
  | 0, _ => rfl
  | k + 1, a => by simp [chainD, chainD_len g d k]
theorem chain_len {g : Graph} {a b : Int} {l : List Int} (h : chain g a b = some l) : l.length ≤ 1024 := by
  unfold chain at h
  split at h
  · rename_i hv
    simp only [Bool.and_eq_true, decide_eq_true_eq] at hv
    obtain ⟨hfit, h0, h1⟩ := valid_of hv.1
    simp only [Option.some.injEq] at h
    subst h
    rw [chainD_len]
    have := (dist_lt hfit (w := -1) (b := b) h0 h1).2
    omega
  · cases h
theorem gates_len {g : Graph} {a b : Int} : (gates g a b).length ≤ 1024 := by
  unfold gates
  split
  · rename_i hv
    simp only [Bool.and_eq_true] at hv
    obtain ⟨hfit, h0, h1⟩ := valid_of hv.1.1
    have := sieve_len g.nodes.length (isGate g a b)
    have := hfit.nodes
    omega
  · simp
theorem g10_eq {g : Graph} (h : Sized g) : g10 [.agg [.list (g.nodes.map .str), .list (g.edges.map eD)]] = some (.bool (few g)) :=
  encSpec_eq (x := g) h fun y hy => by
    simp only [List.cons.injEq, and_true] at hy
    rw [gD_inj hy]
noncomputable def Γ4 : FuncId → Option CSpec := fun f => if f = 9 then some (.pure false g9) else if f = 10 then some (.pure true g10) else if f = 16 then some (.pure false g16) else if f = 17 then some (.pure false g16) else if f = 18 then some (.pure false g19) else if f = 19 then some (.pure false g19) else if f = 15 then some (.pure true g15) else none
theorem Γ4_ok : ∀ f s, Γ4 f = some s → SpecOK Try.prog f s := by
  intro f s h
  unfold Γ4 at h
  split at h
  · rename_i hf; cases h; subst hf; exact f9_ok
  split at h
  · rename_i hf; cases h; subst hf; exact f10_ok
  split at h
  · rename_i hf; cases h; subst hf; exact f16_ok
  split at h
  · rename_i hf; cases h; subst hf; exact f17_ok
  split at h
  · rename_i hf; cases h; subst hf; exact f18_ok
  split at h
  · rename_i hf; cases h; subst hf; exact f19_ok
  split at h
  · rename_i hf; cases h; subst hf; exact f15_ok
  · cases h
noncomputable def g4 : List D → Option D := encSpec (fun x : Graph × Int × Int => [gD x.1, i64 x.2.1, i64 x.2.2]) (fun x => Sized x.1) (fun _ => .bool true)
theorem f4_ok : PureOK Try.prog 4 true g4 := by
  have hΓ := Γ4_ok
  refine pure_enc (n := 49) (rs := [.tmp 6]) Try.func4 (by kernel_rfl) rfl (by kernel_rfl) (by kernel_rfl) ?_
  rintro ⟨g, a, b⟩ hs
  dsimp only at hs
  refine ⟨fun _ => .bool _, fun c hz0 => ?_⟩
  have e10 := g10_eq hs
  have e16 := g16_eq (a := a) (b := b) hs
  have e19 := g19_eq (a := a) (b := b) hs
  have hgl := gates_len (g := g) (a := a) (b := b)
  have e15 := g15_eq (a := gates g a b) (b := gates g a b) (by omega)
  rw [beq_self_eq_true] at e15
  generalize gates g a b = gs at e19 e15 hgl
  simp only [start, go_sem, emptyH, List.replicate_succ, List.replicate_zero]
  cases hf : few g with
  | false =>
    rw [hf] at e10
    repeat (first
      | refine awp_seq ?_ | refine awp_block ?_ | refine awp_ret ?_ | refine awp_skip ?_ | refine awp_exit ?_ | refine awp_label ?_
      | refine then_normal ?_ | refine then_ret ?_ | refine then_exit ?_ | refine block_normal ?_ | refine block_ret ?_ | refine block_exit ?_ | refine block_out rfl ?_
      | (apply awp_reg hΓ; (focus (simp (disch := omega) only [go_sem, decide_eq_true, decide_eq_false, if_pos, if_neg, wrap_in, maxLen, Γ4, g9_eq, e10]; with_reducible rfl)))
      | (apply awp_regf mixedOK hΓ (by kernel_rfl); (focus (simp (disch := omega) only [go_sem, decide_eq_true, decide_eq_false, if_pos, if_neg, wrap_in, maxLen, Γ4, g9_eq, e10]; with_reducible rfl)); (focus (simp only [go_sem]; with_reducible rfl)))
      | (apply awp_regt mixedOK hΓ rfl; (focus kernel_rfl); (focus (simp (disch := omega) only [go_sem, decide_eq_true, decide_eq_false, if_pos, if_neg, wrap_in, maxLen, Γ4, g9_eq, e10]; with_reducible rfl)); (focus (simp only [go_sem]; with_reducible rfl)); (focus (simp (disch := omega) only [go_sem, decide_eq_true, decide_eq_false, if_pos, if_neg, wrap_in, maxLen, Γ4, g9_eq, e10]; with_reducible rfl)))
      | (apply awp_cond_t; (focus (simp (disch := omega) only [go_sem, decide_eq_true, decide_eq_false, if_pos, if_neg, wrap_in, maxLen, Γ4, g9_eq, e10]; done))) | (apply awp_cond_f; (focus (simp (disch := omega) only [go_sem, decide_eq_true, decide_eq_false, if_pos, if_neg, wrap_in, maxLen, Γ4, g9_eq, e10]; done)))
      | (apply ret_e; (focus (simp (disch := omega) only [go_sem, decide_eq_true, decide_eq_false, if_pos, if_neg, wrap_in, maxLen, Γ4, g9_eq, e10]; with_reducible rfl)); (focus (simp (disch := omega) only [go_sem, decide_eq_true, decide_eq_false, if_pos, if_neg, wrap_in, maxLen, Γ4, g9_eq, e10]; with_reducible rfl))) | (apply end_e; (focus (simp (disch := omega) only [go_sem, decide_eq_true, decide_eq_false, if_pos, if_neg, wrap_in, maxLen, Γ4, g9_eq, e10]; with_reducible rfl)); (focus (simp (disch := omega) only [go_sem, decide_eq_true, decide_eq_false, if_pos, if_neg, wrap_in, maxLen, Γ4, g9_eq, e10]; with_reducible rfl)))
      | rfl)
  | true =>
    rw [hf] at e10
    unfold chainR at e16
    cases hch : chain g a b with
    | none =>
      rw [hch] at e16
      have e15n := g15_eq (a := []) (b := []) (by simp)
      simp only [List.map_nil, beq_self_eq_true] at e15n
      repeat (first
        | refine awp_seq ?_ | refine awp_block ?_ | refine awp_ret ?_ | refine awp_skip ?_ | refine awp_exit ?_ | refine awp_label ?_
        | refine then_normal ?_ | refine then_ret ?_ | refine then_exit ?_ | refine block_normal ?_ | refine block_ret ?_ | refine block_exit ?_ | refine block_out rfl ?_
        | (apply awp_reg hΓ; (focus (simp (disch := omega) only [go_sem, decide_eq_true, decide_eq_false, if_pos, if_neg, wrap_in, maxLen, Γ4, g9_eq, e10, e16, e19, e15, e15n]; with_reducible rfl)))
        | (apply awp_regf mixedOK hΓ (by kernel_rfl); (focus (simp (disch := omega) only [go_sem, decide_eq_true, decide_eq_false, if_pos, if_neg, wrap_in, maxLen, Γ4, g9_eq, e10, e16, e19, e15, e15n]; with_reducible rfl)); (focus (simp only [go_sem]; with_reducible rfl)))
        | (apply awp_regt mixedOK hΓ rfl; (focus kernel_rfl); (focus (simp (disch := omega) only [go_sem, decide_eq_true, decide_eq_false, if_pos, if_neg, wrap_in, maxLen, Γ4, g9_eq, e10, e16, e19, e15, e15n]; with_reducible rfl)); (focus (simp only [go_sem]; with_reducible rfl)); (focus (simp (disch := omega) only [go_sem, decide_eq_true, decide_eq_false, if_pos, if_neg, wrap_in, maxLen, Γ4, g9_eq, e10, e16, e19, e15, e15n]; with_reducible rfl)))
        | (apply awp_cond_t; (focus (simp (disch := omega) only [go_sem, decide_eq_true, decide_eq_false, if_pos, if_neg, wrap_in, maxLen, Γ4, g9_eq, e10, e16, e19, e15, e15n]; done))) | (apply awp_cond_f; (focus (simp (disch := omega) only [go_sem, decide_eq_true, decide_eq_false, if_pos, if_neg, wrap_in, maxLen, Γ4, g9_eq, e10, e16, e19, e15, e15n]; done)))
        | (apply ret_e; (focus (simp (disch := omega) only [go_sem, decide_eq_true, decide_eq_false, if_pos, if_neg, wrap_in, maxLen, Γ4, g9_eq, e10, e16, e19, e15, e15n]; with_reducible rfl)); (focus (simp (disch := omega) only [go_sem, decide_eq_true, decide_eq_false, if_pos, if_neg, wrap_in, maxLen, Γ4, g9_eq, e10, e16, e19, e15, e15n]; with_reducible rfl))) | (apply end_e; (focus (simp (disch := omega) only [go_sem, decide_eq_true, decide_eq_false, if_pos, if_neg, wrap_in, maxLen, Γ4, g9_eq, e10, e16, e19, e15, e15n]; with_reducible rfl)); (focus (simp (disch := omega) only [go_sem, decide_eq_true, decide_eq_false, if_pos, if_neg, wrap_in, maxLen, Γ4, g9_eq, e10, e16, e19, e15, e15n]; with_reducible rfl)))
        | rfl)
    | some l =>
      rw [hch] at e16
      have hll := chain_len hch
      have e15l := g15_eq (a := l) (b := l) (by omega)
      rw [beq_self_eq_true] at e15l
      repeat (first
        | refine awp_seq ?_ | refine awp_block ?_ | refine awp_ret ?_ | refine awp_skip ?_ | refine awp_exit ?_ | refine awp_label ?_
        | refine then_normal ?_ | refine then_ret ?_ | refine then_exit ?_ | refine block_normal ?_ | refine block_ret ?_ | refine block_exit ?_ | refine block_out rfl ?_
        | (apply awp_reg hΓ; (focus (simp (disch := omega) only [go_sem, decide_eq_true, decide_eq_false, if_pos, if_neg, wrap_in, maxLen, Γ4, g9_eq, e10, e16, e19, e15, e15l, ints]; with_reducible rfl)))
        | (apply awp_regf mixedOK hΓ (by kernel_rfl); (focus (simp (disch := omega) only [go_sem, decide_eq_true, decide_eq_false, if_pos, if_neg, wrap_in, maxLen, Γ4, g9_eq, e10, e16, e19, e15, e15l, ints]; with_reducible rfl)); (focus (simp only [go_sem]; with_reducible rfl)))
        | (apply awp_regt mixedOK hΓ rfl; (focus kernel_rfl); (focus (simp (disch := omega) only [go_sem, decide_eq_true, decide_eq_false, if_pos, if_neg, wrap_in, maxLen, Γ4, g9_eq, e10, e16, e19, e15, e15l, ints]; with_reducible rfl)); (focus (simp only [go_sem]; with_reducible rfl)); (focus (simp (disch := omega) only [go_sem, decide_eq_true, decide_eq_false, if_pos, if_neg, wrap_in, maxLen, Γ4, g9_eq, e10, e16, e19, e15, e15l, ints]; with_reducible rfl)))
        | (apply awp_cond_t; (focus (simp (disch := omega) only [go_sem, decide_eq_true, decide_eq_false, if_pos, if_neg, wrap_in, maxLen, Γ4, g9_eq, e10, e16, e19, e15, e15l, ints]; done))) | (apply awp_cond_f; (focus (simp (disch := omega) only [go_sem, decide_eq_true, decide_eq_false, if_pos, if_neg, wrap_in, maxLen, Γ4, g9_eq, e10, e16, e19, e15, e15l, ints]; done)))
        | (apply ret_e; (focus (simp (disch := omega) only [go_sem, decide_eq_true, decide_eq_false, if_pos, if_neg, wrap_in, maxLen, Γ4, g9_eq, e10, e16, e19, e15, e15l, ints]; with_reducible rfl)); (focus (simp (disch := omega) only [go_sem, decide_eq_true, decide_eq_false, if_pos, if_neg, wrap_in, maxLen, Γ4, g9_eq, e10, e16, e19, e15, e15l, ints]; with_reducible rfl))) | (apply end_e; (focus (simp (disch := omega) only [go_sem, decide_eq_true, decide_eq_false, if_pos, if_neg, wrap_in, maxLen, Γ4, g9_eq, e10, e16, e19, e15, e15l, ints]; with_reducible rfl)); (focus (simp (disch := omega) only [go_sem, decide_eq_true, decide_eq_false, if_pos, if_neg, wrap_in, maxLen, Γ4, g9_eq, e10, e16, e19, e15, e15l, ints]; with_reducible rfl)))
        | rfl)
end Go.Ab
