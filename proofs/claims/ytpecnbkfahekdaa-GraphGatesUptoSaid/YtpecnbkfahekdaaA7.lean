/-
  One text of the proof (own work): contracts of functions of the program, by the abstract machine.
-/
import Derived.Test.YtpecnbkfahekdaaA6
set_option linter.unusedVariables false
set_option linter.unusedSimpArgs false
namespace Go.Ab
open Go Go.RowKit Go.Proofs
set_option maxRecDepth 4000
set_option maxHeartbeats 1000000

noncomputable def Γ31 : FuncId → Option CSpec := fun f => if f = 46 then some (.pure true g46) else none
theorem Γ31_ok : ∀ f s, Γ31 f = some s → SpecOK Try.prog f s := by
  intro f s h
  unfold Γ31 at h
  split at h
  · rename_i hf; cases h; subst hf; exact f46_ok
  · cases h
theorem f31_ok : PureOK Try.prog 31 true g20 := by
  refine pure_enc (n := 112) (rs := [.tmp 2]) Try.func31 (by kernel_rfl) rfl (by kernel_rfl) (by kernel_rfl) ?_
  rintro g ⟨hn, he⟩
  have hΓ := Γ31_ok
  refine ⟨fun _ => .int _ _, fun c hz0 => ?_⟩
  simp only [start, go_sem, emptyH, List.replicate_succ, List.replicate_zero]
  by_cases h1 : g.nodes.length > 1024
  · repeat (first
    | refine awp_seq ?_ | refine awp_block ?_ | refine awp_ret ?_ | refine awp_skip ?_ | refine awp_exit ?_ | refine awp_label ?_
    | refine then_normal ?_ | refine then_ret ?_ | refine then_exit ?_ | refine block_normal ?_ | refine block_ret ?_ | refine block_exit ?_ | refine block_out rfl ?_
    | (apply awp_reg hΓ; (focus (simp (disch := omega) only [go_sem, decide_eq_true, decide_eq_false, if_pos, if_neg, wrap_in, maxLen]; with_reducible rfl)))
    | (apply awp_regf mixedOK hΓ (by kernel_rfl); (focus (simp (disch := omega) only [go_sem, decide_eq_true, decide_eq_false, if_pos, if_neg, wrap_in, maxLen]; with_reducible rfl)); (focus (simp only [go_sem]; with_reducible rfl)))
    | (apply awp_regt mixedOK hΓ rfl; (focus kernel_rfl); (focus (simp (disch := omega) only [go_sem, decide_eq_true, decide_eq_false, if_pos, if_neg, wrap_in, maxLen]; with_reducible rfl)); (focus (simp only [go_sem]; with_reducible rfl)); (focus (simp (disch := omega) only [go_sem, decide_eq_true, decide_eq_false, if_pos, if_neg, wrap_in, maxLen]; with_reducible rfl)))
    | (apply awp_cond_t; (focus (simp (disch := omega) only [go_sem, decide_eq_true, decide_eq_false, if_pos, if_neg, wrap_in, maxLen]; done))) | (apply awp_cond_f; (focus (simp (disch := omega) only [go_sem, decide_eq_true, decide_eq_false, if_pos, if_neg, wrap_in, maxLen]; done)))
    | (apply ret_e; (focus (simp (disch := omega) only [go_sem, decide_eq_true, decide_eq_false, if_pos, if_neg, wrap_in, maxLen]; with_reducible rfl)); (focus (simp (disch := omega) only [go_sem, decide_eq_true, decide_eq_false, if_pos, if_neg, wrap_in, maxLen]; with_reducible rfl))) | (apply end_e; (focus (simp (disch := omega) only [go_sem, decide_eq_true, decide_eq_false, if_pos, if_neg, wrap_in, maxLen]; with_reducible rfl)); (focus (simp (disch := omega) only [go_sem, decide_eq_true, decide_eq_false, if_pos, if_neg, wrap_in, maxLen]; with_reducible rfl)))
    | rfl)
    simp [chk, h1]
  by_cases h2 : g.edges.length > 1024
  · repeat (first
    | refine awp_seq ?_ | refine awp_block ?_ | refine awp_ret ?_ | refine awp_skip ?_ | refine awp_exit ?_ | refine awp_label ?_
    | refine then_normal ?_ | refine then_ret ?_ | refine then_exit ?_ | refine block_normal ?_ | refine block_ret ?_ | refine block_exit ?_ | refine block_out rfl ?_
    | (apply awp_reg hΓ; (focus (simp (disch := omega) only [go_sem, decide_eq_true, decide_eq_false, if_pos, if_neg, wrap_in, maxLen]; with_reducible rfl)))
    | (apply awp_regf mixedOK hΓ (by kernel_rfl); (focus (simp (disch := omega) only [go_sem, decide_eq_true, decide_eq_false, if_pos, if_neg, wrap_in, maxLen]; with_reducible rfl)); (focus (simp only [go_sem]; with_reducible rfl)))
    | (apply awp_regt mixedOK hΓ rfl; (focus kernel_rfl); (focus (simp (disch := omega) only [go_sem, decide_eq_true, decide_eq_false, if_pos, if_neg, wrap_in, maxLen]; with_reducible rfl)); (focus (simp only [go_sem]; with_reducible rfl)); (focus (simp (disch := omega) only [go_sem, decide_eq_true, decide_eq_false, if_pos, if_neg, wrap_in, maxLen]; with_reducible rfl)))
    | (apply awp_cond_t; (focus (simp (disch := omega) only [go_sem, decide_eq_true, decide_eq_false, if_pos, if_neg, wrap_in, maxLen]; done))) | (apply awp_cond_f; (focus (simp (disch := omega) only [go_sem, decide_eq_true, decide_eq_false, if_pos, if_neg, wrap_in, maxLen]; done)))
    | (apply ret_e; (focus (simp (disch := omega) only [go_sem, decide_eq_true, decide_eq_false, if_pos, if_neg, wrap_in, maxLen]; with_reducible rfl)); (focus (simp (disch := omega) only [go_sem, decide_eq_true, decide_eq_false, if_pos, if_neg, wrap_in, maxLen]; with_reducible rfl))) | (apply end_e; (focus (simp (disch := omega) only [go_sem, decide_eq_true, decide_eq_false, if_pos, if_neg, wrap_in, maxLen]; with_reducible rfl)); (focus (simp (disch := omega) only [go_sem, decide_eq_true, decide_eq_false, if_pos, if_neg, wrap_in, maxLen]; with_reducible rfl)))
    | rfl)
    simp [chk, h2]
  repeat (first
    | refine awp_seq ?_ | refine awp_block ?_ | refine awp_ret ?_ | refine awp_skip ?_ | refine awp_exit ?_ | refine awp_label ?_
    | refine then_normal ?_ | refine then_ret ?_ | refine then_exit ?_ | refine block_normal ?_ | refine block_ret ?_ | refine block_exit ?_ | refine block_out rfl ?_
    | (apply awp_reg hΓ; (focus (simp (disch := omega) only [go_sem, decide_eq_true, decide_eq_false, if_pos, if_neg, wrap_in, maxLen]; with_reducible rfl)))
    | (apply awp_regf mixedOK hΓ (by kernel_rfl); (focus (simp (disch := omega) only [go_sem, decide_eq_true, decide_eq_false, if_pos, if_neg, wrap_in, maxLen]; with_reducible rfl)); (focus (simp only [go_sem]; with_reducible rfl)))
    | (apply awp_regt mixedOK hΓ rfl; (focus kernel_rfl); (focus (simp (disch := omega) only [go_sem, decide_eq_true, decide_eq_false, if_pos, if_neg, wrap_in, maxLen]; with_reducible rfl)); (focus (simp only [go_sem]; with_reducible rfl)); (focus (simp (disch := omega) only [go_sem, decide_eq_true, decide_eq_false, if_pos, if_neg, wrap_in, maxLen]; with_reducible rfl)))
    | (apply awp_cond_t; (focus (simp (disch := omega) only [go_sem, decide_eq_true, decide_eq_false, if_pos, if_neg, wrap_in, maxLen]; done))) | (apply awp_cond_f; (focus (simp (disch := omega) only [go_sem, decide_eq_true, decide_eq_false, if_pos, if_neg, wrap_in, maxLen]; done)))
    | (apply ret_e; (focus (simp (disch := omega) only [go_sem, decide_eq_true, decide_eq_false, if_pos, if_neg, wrap_in, maxLen]; with_reducible rfl)); (focus (simp (disch := omega) only [go_sem, decide_eq_true, decide_eq_false, if_pos, if_neg, wrap_in, maxLen]; with_reducible rfl))) | (apply end_e; (focus (simp (disch := omega) only [go_sem, decide_eq_true, decide_eq_false, if_pos, if_neg, wrap_in, maxLen]; with_reducible rfl)); (focus (simp (disch := omega) only [go_sem, decide_eq_true, decide_eq_false, if_pos, if_neg, wrap_in, maxLen]; with_reducible rfl)))
    | rfl)
  refine awp_loop_at (X := Nat) (fun i => (.junk :: .ptr 0 0 :: .junk :: .data (i64 i) :: .junk :: .junk :: .junk :: .junk :: .junk :: .junk :: .junk :: .junk :: .junk :: .junk :: .junk :: .junk :: .junk :: .junk :: .junk :: .junk :: .junk :: .junk :: .junk :: .junk :: .junk :: .junk :: .junk :: .junk :: .junk :: .junk :: .junk :: .junk :: .junk :: .junk :: .junk :: .junk :: .junk :: .junk :: .junk :: .junk :: .junk :: .junk :: .junk :: .junk :: .junk :: .junk :: .junk :: .junk :: .junk :: .junk :: .junk :: .junk :: .junk :: .junk :: .junk :: .junk :: .junk :: .junk :: .junk :: .junk :: .junk :: .junk :: .junk :: .junk :: .junk :: .junk :: .junk :: .junk :: .junk :: .junk :: .junk :: .junk :: .junk :: .junk :: .junk :: .junk :: .junk :: .junk :: .junk :: .junk :: .junk :: .junk :: .junk :: .junk :: .junk :: .junk :: .junk :: .junk :: .junk :: .junk :: .junk :: .junk :: .junk :: .junk :: .junk :: .junk :: .junk :: .junk :: .junk :: .junk :: .junk :: .junk :: .junk :: .junk :: .junk :: .junk :: .junk :: .junk :: .junk :: .junk :: .junk :: .junk :: [])) (fun _ => [(0, .box [.data (.list (g.nodes.map .str)), .data (.list (g.edges.map eD))])]) 1
    (fun i => i ≤ g.nodes.length ∧ (g.nodes.take i).any (fun s => decide (s.length > 128)) = false) (fun i => g.nodes.length - i) 0 ⟨Nat.zero_le _, rfl⟩ (Weak.of (by omega) (by simp [ConvL, Conv, ints]) (by simp [TabSub, look, Obj.refsOK, refsOKs, AV.refsOK]) (by simp [refsOKs, AV.refsOK])) ?_
  rintro i ⟨hi, hpre⟩
  repeat (first
    | refine awp_seq ?_ | refine awp_block ?_ | refine awp_ret ?_ | refine awp_skip ?_ | refine awp_exit ?_ | refine awp_label ?_
    | refine then_normal ?_ | refine then_ret ?_ | refine then_exit ?_ | refine block_normal ?_ | refine block_ret ?_ | refine block_exit ?_ | refine block_out rfl ?_
    | (apply awp_reg hΓ; (focus (simp (disch := omega) only [go_sem]; with_reducible rfl)))
    | (apply awp_regf mixedOK hΓ (by kernel_rfl); (focus (simp (disch := omega) only [go_sem]; with_reducible rfl)); (focus (simp only [go_sem]; with_reducible rfl)))
    | (apply awp_regt mixedOK hΓ rfl; (focus kernel_rfl); (focus (simp (disch := omega) only [go_sem]; with_reducible rfl)); (focus (simp only [go_sem]; with_reducible rfl)); (focus (simp (disch := omega) only [go_sem]; with_reducible rfl)))
    | (apply awp_cond_t; (focus (simp (disch := omega) only [go_sem]; done))) | (apply awp_cond_f; (focus (simp (disch := omega) only [go_sem]; done)))
    | (apply ret_e; (focus (simp (disch := omega) only [go_sem]; with_reducible rfl)); (focus (simp (disch := omega) only [go_sem]; with_reducible rfl))) | (apply end_e; (focus (simp (disch := omega) only [go_sem]; with_reducible rfl)); (focus (simp (disch := omega) only [go_sem]; with_reducible rfl)))
    | rfl)
  refine awp_cond (by simp (disch := omega) only [go_sem]; rfl) (fun hc => ?_) (fun hc => ?_)
  · have hi' : i < g.nodes.length := by simpa using hc
    repeat (first
      | refine awp_seq ?_ | refine awp_block ?_ | refine awp_ret ?_ | refine awp_skip ?_ | refine awp_exit ?_ | refine awp_label ?_
      | refine then_normal ?_ | refine then_ret ?_ | refine then_exit ?_ | refine block_normal ?_ | refine block_ret ?_ | refine block_exit ?_ | refine block_out rfl ?_
      | (apply awp_reg hΓ; (focus (simp (disch := omega) only [go_sem, decide_eq_true, decide_eq_false, if_pos, if_neg, wrap_in, maxLen]; with_reducible rfl)))
      | (apply awp_regf mixedOK hΓ (by kernel_rfl); (focus (simp (disch := omega) only [go_sem, decide_eq_true, decide_eq_false, if_pos, if_neg, wrap_in, maxLen]; with_reducible rfl)); (focus (simp only [go_sem]; with_reducible rfl)))
      | (apply awp_regt mixedOK hΓ rfl; (focus kernel_rfl); (focus (simp (disch := omega) only [go_sem, decide_eq_true, decide_eq_false, if_pos, if_neg, wrap_in, maxLen]; with_reducible rfl)); (focus (simp only [go_sem]; with_reducible rfl)); (focus (simp (disch := omega) only [go_sem, decide_eq_true, decide_eq_false, if_pos, if_neg, wrap_in, maxLen]; with_reducible rfl)))
      | (apply awp_cond_t; (focus (simp (disch := omega) only [go_sem, decide_eq_true, decide_eq_false, if_pos, if_neg, wrap_in, maxLen]; done))) | (apply awp_cond_f; (focus (simp (disch := omega) only [go_sem, decide_eq_true, decide_eq_false, if_pos, if_neg, wrap_in, maxLen]; done)))
      | (apply ret_e; (focus (simp (disch := omega) only [go_sem, decide_eq_true, decide_eq_false, if_pos, if_neg, wrap_in, maxLen]; with_reducible rfl)); (focus (simp (disch := omega) only [go_sem, decide_eq_true, decide_eq_false, if_pos, if_neg, wrap_in, maxLen]; with_reducible rfl))) | (apply end_e; (focus (simp (disch := omega) only [go_sem, decide_eq_true, decide_eq_false, if_pos, if_neg, wrap_in, maxLen]; with_reducible rfl)); (focus (simp (disch := omega) only [go_sem, decide_eq_true, decide_eq_false, if_pos, if_neg, wrap_in, maxLen]; with_reducible rfl)))
      | rfl)
    refine awp_cond (by simp (disch := omega) only [go_sem]; rfl) (fun hc => ?_) (fun hc => ?_)
    · repeat (first
      | refine awp_seq ?_ | refine awp_block ?_ | refine awp_ret ?_ | refine awp_skip ?_ | refine awp_exit ?_ | refine awp_label ?_
      | refine then_normal ?_ | refine then_ret ?_ | refine then_exit ?_ | refine block_normal ?_ | refine block_ret ?_ | refine block_exit ?_ | refine block_out rfl ?_
      | (apply awp_reg hΓ; (focus (simp (disch := omega) only [go_sem]; with_reducible rfl)))
      | (apply awp_regf mixedOK hΓ (by kernel_rfl); (focus (simp (disch := omega) only [go_sem]; with_reducible rfl)); (focus (simp only [go_sem]; with_reducible rfl)))
      | (apply awp_regt mixedOK hΓ rfl; (focus kernel_rfl); (focus (simp (disch := omega) only [go_sem]; with_reducible rfl)); (focus (simp only [go_sem]; with_reducible rfl)); (focus (simp (disch := omega) only [go_sem]; with_reducible rfl)))
      | (apply awp_cond_t; (focus (simp (disch := omega) only [go_sem]; done))) | (apply awp_cond_f; (focus (simp (disch := omega) only [go_sem]; done)))
      | (apply ret_e; (focus (simp (disch := omega) only [go_sem]; with_reducible rfl)); (focus (simp (disch := omega) only [go_sem]; with_reducible rfl))) | (apply end_e; (focus (simp (disch := omega) only [go_sem]; with_reducible rfl)); (focus (simp (disch := omega) only [go_sem]; with_reducible rfl)))
      | rfl)
      simp only [chk]
      rw [if_neg (by omega), if_pos (List.any_eq_true.2 ⟨g.nodes[i], List.getElem_mem hi', by simp at hc ⊢; omega⟩)]
    · repeat (first
      | refine awp_seq ?_ | refine awp_block ?_ | refine awp_ret ?_ | refine awp_skip ?_ | refine awp_exit ?_ | refine awp_label ?_
      | refine then_normal ?_ | refine then_ret ?_ | refine then_exit ?_ | refine block_normal ?_ | refine block_ret ?_ | refine block_exit ?_ | refine block_out rfl ?_
      | (apply awp_reg hΓ; (focus (simp (disch := omega) only [go_sem, decide_eq_true, decide_eq_false, if_pos, if_neg, wrap_in, maxLen]; with_reducible rfl)))
      | (apply awp_regf mixedOK hΓ (by kernel_rfl); (focus (simp (disch := omega) only [go_sem, decide_eq_true, decide_eq_false, if_pos, if_neg, wrap_in, maxLen]; with_reducible rfl)); (focus (simp only [go_sem]; with_reducible rfl)))
      | (apply awp_regt mixedOK hΓ rfl; (focus kernel_rfl); (focus (simp (disch := omega) only [go_sem, decide_eq_true, decide_eq_false, if_pos, if_neg, wrap_in, maxLen]; with_reducible rfl)); (focus (simp only [go_sem]; with_reducible rfl)); (focus (simp (disch := omega) only [go_sem, decide_eq_true, decide_eq_false, if_pos, if_neg, wrap_in, maxLen]; with_reducible rfl)))
      | (apply awp_cond_t; (focus (simp (disch := omega) only [go_sem, decide_eq_true, decide_eq_false, if_pos, if_neg, wrap_in, maxLen]; done))) | (apply awp_cond_f; (focus (simp (disch := omega) only [go_sem, decide_eq_true, decide_eq_false, if_pos, if_neg, wrap_in, maxLen]; done)))
      | (apply ret_e; (focus (simp (disch := omega) only [go_sem, decide_eq_true, decide_eq_false, if_pos, if_neg, wrap_in, maxLen]; with_reducible rfl)); (focus (simp (disch := omega) only [go_sem, decide_eq_true, decide_eq_false, if_pos, if_neg, wrap_in, maxLen]; with_reducible rfl))) | (apply end_e; (focus (simp (disch := omega) only [go_sem, decide_eq_true, decide_eq_false, if_pos, if_neg, wrap_in, maxLen]; with_reducible rfl)); (focus (simp (disch := omega) only [go_sem, decide_eq_true, decide_eq_false, if_pos, if_neg, wrap_in, maxLen]; with_reducible rfl)))
      | rfl)
      exact ⟨i + 1, ⟨by omega, any_next hi' hpre (by simp at hc ⊢; omega)⟩, by omega, Weak.of (by omega) (by simp [ConvL, Conv, ints]) (by simp [TabSub, look, Obj.refsOK, refsOKs, AV.refsOK]) (by simp [refsOKs, AV.refsOK])⟩
  have hname : g.nodes.any (fun s => decide (s.length > 128)) = false := by
    have : ¬ i < g.nodes.length := by simpa using hc
    rw [List.take_of_length_le (by omega)] at hpre
    exact hpre
  repeat (first
    | refine awp_seq ?_ | refine awp_block ?_ | refine awp_ret ?_ | refine awp_skip ?_ | refine awp_exit ?_ | refine awp_label ?_
    | refine then_normal ?_ | refine then_ret ?_ | refine then_exit ?_ | refine block_normal ?_ | refine block_ret ?_ | refine block_exit ?_ | refine block_out rfl ?_
    | (apply awp_reg hΓ; (focus (simp (disch := omega) only [go_sem]; with_reducible rfl)))
    | (apply awp_regf mixedOK hΓ (by kernel_rfl); (focus (simp (disch := omega) only [go_sem]; with_reducible rfl)); (focus (simp only [go_sem]; with_reducible rfl)))
    | (apply awp_regt mixedOK hΓ rfl; (focus kernel_rfl); (focus (simp (disch := omega) only [go_sem]; with_reducible rfl)); (focus (simp only [go_sem]; with_reducible rfl)); (focus (simp (disch := omega) only [go_sem]; with_reducible rfl)))
    | (apply awp_cond_t; (focus (simp (disch := omega) only [go_sem]; done))) | (apply awp_cond_f; (focus (simp (disch := omega) only [go_sem]; done)))
    | (apply ret_e; (focus (simp (disch := omega) only [go_sem]; with_reducible rfl)); (focus (simp (disch := omega) only [go_sem]; with_reducible rfl))) | (apply end_e; (focus (simp (disch := omega) only [go_sem]; with_reducible rfl)); (focus (simp (disch := omega) only [go_sem]; with_reducible rfl)))
    | rfl)
  refine awp_loop_at (X := Nat) (fun i => (.junk :: .ptr 0 0 :: .junk :: .junk :: .data (i64 i) :: .junk :: .junk :: .junk :: .junk :: .junk :: .junk :: .junk :: .junk :: .junk :: .junk :: .junk :: .junk :: .junk :: .junk :: .junk :: .junk :: .junk :: .junk :: .junk :: .junk :: .junk :: .junk :: .junk :: .junk :: .junk :: .junk :: .junk :: .junk :: .junk :: .junk :: .junk :: .junk :: .junk :: .junk :: .junk :: .junk :: .junk :: .junk :: .junk :: .junk :: .junk :: .junk :: .junk :: .junk :: .junk :: .junk :: .junk :: .junk :: .junk :: .junk :: .junk :: .junk :: .junk :: .junk :: .junk :: .junk :: .junk :: .junk :: .junk :: .junk :: .junk :: .junk :: .junk :: .junk :: .junk :: .junk :: .junk :: .junk :: .junk :: .junk :: .junk :: .junk :: .junk :: .junk :: .junk :: .junk :: .junk :: .junk :: .junk :: .junk :: .junk :: .junk :: .junk :: .junk :: .junk :: .junk :: .junk :: .junk :: .junk :: .junk :: .junk :: .junk :: .junk :: .junk :: .junk :: .junk :: .junk :: .junk :: .junk :: .junk :: .junk :: .junk :: .junk :: .junk :: .junk :: .junk :: .junk :: [])) (fun _ => [(0, .box [.data (.list (g.nodes.map .str)), .data (.list (g.edges.map eD))])]) 1
    (fun i => 1 ≤ i ∧ i ≤ g.nodes.length + 1 ∧ AscTo Op.bytesLess g.nodes i) (fun i => g.nodes.length + 1 - i) 1 ⟨by omega, by omega, fun j _ _ _ => by omega⟩ (Weak.of (by omega) (by simp [ConvL, Conv, ints]) (by simp [TabSub, look, Obj.refsOK, refsOKs, AV.refsOK]) (by simp [refsOKs, AV.refsOK])) ?_
  clear hi hpre hc
  rintro i ⟨hi1, hi, hpre⟩
  repeat (first
    | refine awp_seq ?_ | refine awp_block ?_ | refine awp_ret ?_ | refine awp_skip ?_ | refine awp_exit ?_ | refine awp_label ?_
    | refine then_normal ?_ | refine then_ret ?_ | refine then_exit ?_ | refine block_normal ?_ | refine block_ret ?_ | refine block_exit ?_ | refine block_out rfl ?_
    | (apply awp_reg hΓ; (focus (simp (disch := omega) only [go_sem]; with_reducible rfl)))
    | (apply awp_regf mixedOK hΓ (by kernel_rfl); (focus (simp (disch := omega) only [go_sem]; with_reducible rfl)); (focus (simp only [go_sem]; with_reducible rfl)))
    | (apply awp_regt mixedOK hΓ rfl; (focus kernel_rfl); (focus (simp (disch := omega) only [go_sem]; with_reducible rfl)); (focus (simp only [go_sem]; with_reducible rfl)); (focus (simp (disch := omega) only [go_sem]; with_reducible rfl)))
    | (apply awp_cond_t; (focus (simp (disch := omega) only [go_sem]; done))) | (apply awp_cond_f; (focus (simp (disch := omega) only [go_sem]; done)))
    | (apply ret_e; (focus (simp (disch := omega) only [go_sem]; with_reducible rfl)); (focus (simp (disch := omega) only [go_sem]; with_reducible rfl))) | (apply end_e; (focus (simp (disch := omega) only [go_sem]; with_reducible rfl)); (focus (simp (disch := omega) only [go_sem]; with_reducible rfl)))
    | rfl)
  refine awp_cond (by simp (disch := omega) only [go_sem]; rfl) (fun hc => ?_) (fun hc => ?_)
  · have hi' : i < g.nodes.length := by simpa using hc
    have hcast : ((i : Int) - 1).toNat = i - 1 := by omega
    repeat (first
      | refine awp_seq ?_ | refine awp_block ?_ | refine awp_ret ?_ | refine awp_skip ?_ | refine awp_exit ?_ | refine awp_label ?_
      | refine then_normal ?_ | refine then_ret ?_ | refine then_exit ?_ | refine block_normal ?_ | refine block_ret ?_ | refine block_exit ?_ | refine block_out rfl ?_
      | (apply awp_reg hΓ; (focus (simp (disch := omega) only [go_sem, decide_eq_true, decide_eq_false, if_pos, if_neg, wrap_in, maxLen, hcast]; with_reducible rfl)))
      | (apply awp_regf mixedOK hΓ (by kernel_rfl); (focus (simp (disch := omega) only [go_sem, decide_eq_true, decide_eq_false, if_pos, if_neg, wrap_in, maxLen, hcast]; with_reducible rfl)); (focus (simp only [go_sem]; with_reducible rfl)))
      | (apply awp_regt mixedOK hΓ rfl; (focus kernel_rfl); (focus (simp (disch := omega) only [go_sem, decide_eq_true, decide_eq_false, if_pos, if_neg, wrap_in, maxLen, hcast]; with_reducible rfl)); (focus (simp only [go_sem]; with_reducible rfl)); (focus (simp (disch := omega) only [go_sem, decide_eq_true, decide_eq_false, if_pos, if_neg, wrap_in, maxLen, hcast]; with_reducible rfl)))
      | (apply awp_cond_t; (focus (simp (disch := omega) only [go_sem, decide_eq_true, decide_eq_false, if_pos, if_neg, wrap_in, maxLen, hcast]; done))) | (apply awp_cond_f; (focus (simp (disch := omega) only [go_sem, decide_eq_true, decide_eq_false, if_pos, if_neg, wrap_in, maxLen, hcast]; done)))
      | (apply ret_e; (focus (simp (disch := omega) only [go_sem, decide_eq_true, decide_eq_false, if_pos, if_neg, wrap_in, maxLen, hcast]; with_reducible rfl)); (focus (simp (disch := omega) only [go_sem, decide_eq_true, decide_eq_false, if_pos, if_neg, wrap_in, maxLen, hcast]; with_reducible rfl))) | (apply end_e; (focus (simp (disch := omega) only [go_sem, decide_eq_true, decide_eq_false, if_pos, if_neg, wrap_in, maxLen, hcast]; with_reducible rfl)); (focus (simp (disch := omega) only [go_sem, decide_eq_true, decide_eq_false, if_pos, if_neg, wrap_in, maxLen, hcast]; with_reducible rfl)))
      | rfl)
    refine awp_cond (by simp (disch := omega) only [go_sem]; rfl) (fun hc => ?_) (fun hc => ?_)
    · repeat (first
      | refine awp_seq ?_ | refine awp_block ?_ | refine awp_ret ?_ | refine awp_skip ?_ | refine awp_exit ?_ | refine awp_label ?_
      | refine then_normal ?_ | refine then_ret ?_ | refine then_exit ?_ | refine block_normal ?_ | refine block_ret ?_ | refine block_exit ?_ | refine block_out rfl ?_
      | (apply awp_reg hΓ; (focus (simp (disch := omega) only [go_sem]; with_reducible rfl)))
      | (apply awp_regf mixedOK hΓ (by kernel_rfl); (focus (simp (disch := omega) only [go_sem]; with_reducible rfl)); (focus (simp only [go_sem]; with_reducible rfl)))
      | (apply awp_regt mixedOK hΓ rfl; (focus kernel_rfl); (focus (simp (disch := omega) only [go_sem]; with_reducible rfl)); (focus (simp only [go_sem]; with_reducible rfl)); (focus (simp (disch := omega) only [go_sem]; with_reducible rfl)))
      | (apply awp_cond_t; (focus (simp (disch := omega) only [go_sem]; done))) | (apply awp_cond_f; (focus (simp (disch := omega) only [go_sem]; done)))
      | (apply ret_e; (focus (simp (disch := omega) only [go_sem]; with_reducible rfl)); (focus (simp (disch := omega) only [go_sem]; with_reducible rfl))) | (apply end_e; (focus (simp (disch := omega) only [go_sem]; with_reducible rfl)); (focus (simp (disch := omega) only [go_sem]; with_reducible rfl)))
      | rfl)
      simp only [chk]
      rw [if_neg (by omega), if_neg (by simp_all), if_pos]
      intro h
      have := h i hi1 hi'
      simp_all
    · repeat (first
      | refine awp_seq ?_ | refine awp_block ?_ | refine awp_ret ?_ | refine awp_skip ?_ | refine awp_exit ?_ | refine awp_label ?_
      | refine then_normal ?_ | refine then_ret ?_ | refine then_exit ?_ | refine block_normal ?_ | refine block_ret ?_ | refine block_exit ?_ | refine block_out rfl ?_
      | (apply awp_reg hΓ; (focus (simp (disch := omega) only [go_sem, decide_eq_true, decide_eq_false, if_pos, if_neg, wrap_in, maxLen]; with_reducible rfl)))
      | (apply awp_regf mixedOK hΓ (by kernel_rfl); (focus (simp (disch := omega) only [go_sem, decide_eq_true, decide_eq_false, if_pos, if_neg, wrap_in, maxLen]; with_reducible rfl)); (focus (simp only [go_sem]; with_reducible rfl)))
      | (apply awp_regt mixedOK hΓ rfl; (focus kernel_rfl); (focus (simp (disch := omega) only [go_sem, decide_eq_true, decide_eq_false, if_pos, if_neg, wrap_in, maxLen]; with_reducible rfl)); (focus (simp only [go_sem]; with_reducible rfl)); (focus (simp (disch := omega) only [go_sem, decide_eq_true, decide_eq_false, if_pos, if_neg, wrap_in, maxLen]; with_reducible rfl)))
      | (apply awp_cond_t; (focus (simp (disch := omega) only [go_sem, decide_eq_true, decide_eq_false, if_pos, if_neg, wrap_in, maxLen]; done))) | (apply awp_cond_f; (focus (simp (disch := omega) only [go_sem, decide_eq_true, decide_eq_false, if_pos, if_neg, wrap_in, maxLen]; done)))
      | (apply ret_e; (focus (simp (disch := omega) only [go_sem, decide_eq_true, decide_eq_false, if_pos, if_neg, wrap_in, maxLen]; with_reducible rfl)); (focus (simp (disch := omega) only [go_sem, decide_eq_true, decide_eq_false, if_pos, if_neg, wrap_in, maxLen]; with_reducible rfl))) | (apply end_e; (focus (simp (disch := omega) only [go_sem, decide_eq_true, decide_eq_false, if_pos, if_neg, wrap_in, maxLen]; with_reducible rfl)); (focus (simp (disch := omega) only [go_sem, decide_eq_true, decide_eq_false, if_pos, if_neg, wrap_in, maxLen]; with_reducible rfl)))
      | rfl)
      exact ⟨i + 1, ⟨by omega, by omega, hpre.next hi' (by simpa using hc)⟩, by omega, Weak.of (by omega) (by simp [ConvL, Conv, ints]) (by simp [TabSub, look, Obj.refsOK, refsOKs, AV.refsOK]) (by simp [refsOKs, AV.refsOK])⟩
  have hasc : Asc Op.bytesLess g.nodes := hpre.all (by
    have : ¬ i < g.nodes.length := by simpa using hc
    omega)
  repeat (first
    | refine awp_seq ?_ | refine awp_block ?_ | refine awp_ret ?_ | refine awp_skip ?_ | refine awp_exit ?_ | refine awp_label ?_
    | refine then_normal ?_ | refine then_ret ?_ | refine then_exit ?_ | refine block_normal ?_ | refine block_ret ?_ | refine block_exit ?_ | refine block_out rfl ?_
    | (apply awp_reg hΓ; (focus (simp (disch := omega) only [go_sem]; with_reducible rfl)))
    | (apply awp_regf mixedOK hΓ (by kernel_rfl); (focus (simp (disch := omega) only [go_sem]; with_reducible rfl)); (focus (simp only [go_sem]; with_reducible rfl)))
    | (apply awp_regt mixedOK hΓ rfl; (focus kernel_rfl); (focus (simp (disch := omega) only [go_sem]; with_reducible rfl)); (focus (simp only [go_sem]; with_reducible rfl)); (focus (simp (disch := omega) only [go_sem]; with_reducible rfl)))
    | (apply awp_cond_t; (focus (simp (disch := omega) only [go_sem]; done))) | (apply awp_cond_f; (focus (simp (disch := omega) only [go_sem]; done)))
    | (apply ret_e; (focus (simp (disch := omega) only [go_sem]; with_reducible rfl)); (focus (simp (disch := omega) only [go_sem]; with_reducible rfl))) | (apply end_e; (focus (simp (disch := omega) only [go_sem]; with_reducible rfl)); (focus (simp (disch := omega) only [go_sem]; with_reducible rfl)))
    | rfl)
  clear hi hpre hc hi1
  refine awp_loop_at (X := Nat) (fun i => (.junk :: .ptr 0 0 :: .junk :: .junk :: .junk :: .data (i64 i) :: .junk :: .junk :: .junk :: .junk :: .junk :: .junk :: .junk :: .junk :: .junk :: .junk :: .junk :: .junk :: .junk :: .junk :: .junk :: .junk :: .junk :: .junk :: .junk :: .junk :: .junk :: .junk :: .junk :: .junk :: .junk :: .junk :: .junk :: .junk :: .junk :: .junk :: .junk :: .junk :: .junk :: .junk :: .junk :: .junk :: .junk :: .junk :: .junk :: .junk :: .junk :: .junk :: .junk :: .junk :: .junk :: .junk :: .junk :: .junk :: .junk :: .junk :: .junk :: .junk :: .junk :: .junk :: .junk :: .junk :: .junk :: .junk :: .junk :: .junk :: .junk :: .junk :: .junk :: .junk :: .junk :: .junk :: .junk :: .junk :: .junk :: .junk :: .junk :: .junk :: .junk :: .junk :: .junk :: .junk :: .junk :: .junk :: .junk :: .junk :: .junk :: .junk :: .junk :: .junk :: .junk :: .junk :: .junk :: .junk :: .junk :: .junk :: .junk :: .junk :: .junk :: .junk :: .junk :: .junk :: .junk :: .junk :: .junk :: .junk :: .junk :: .junk :: .junk :: .junk :: .junk :: .junk :: [])) (fun _ => [(0, .box [.data (.list (g.nodes.map .str)), .data (.list (g.edges.map eD))])]) 1
    (fun i => i ≤ g.edges.length ∧ (g.edges.take i).any (outside g.nodes.length) = false) (fun i => g.edges.length - i) 0 ⟨Nat.zero_le _, rfl⟩ (Weak.of (by omega) (by simp [ConvL, Conv, ints]) (by simp [TabSub, look, Obj.refsOK, refsOKs, AV.refsOK]) (by simp [refsOKs, AV.refsOK])) ?_
  rintro i ⟨hi, hpre⟩
  repeat (first
    | refine awp_seq ?_ | refine awp_block ?_ | refine awp_ret ?_ | refine awp_skip ?_ | refine awp_exit ?_ | refine awp_label ?_
    | refine then_normal ?_ | refine then_ret ?_ | refine then_exit ?_ | refine block_normal ?_ | refine block_ret ?_ | refine block_exit ?_ | refine block_out rfl ?_
    | (apply awp_reg hΓ; (focus (simp (disch := omega) only [go_sem]; with_reducible rfl)))
    | (apply awp_regf mixedOK hΓ (by kernel_rfl); (focus (simp (disch := omega) only [go_sem]; with_reducible rfl)); (focus (simp only [go_sem]; with_reducible rfl)))
    | (apply awp_regt mixedOK hΓ rfl; (focus kernel_rfl); (focus (simp (disch := omega) only [go_sem]; with_reducible rfl)); (focus (simp only [go_sem]; with_reducible rfl)); (focus (simp (disch := omega) only [go_sem]; with_reducible rfl)))
    | (apply awp_cond_t; (focus (simp (disch := omega) only [go_sem]; done))) | (apply awp_cond_f; (focus (simp (disch := omega) only [go_sem]; done)))
    | (apply ret_e; (focus (simp (disch := omega) only [go_sem]; with_reducible rfl)); (focus (simp (disch := omega) only [go_sem]; with_reducible rfl))) | (apply end_e; (focus (simp (disch := omega) only [go_sem]; with_reducible rfl)); (focus (simp (disch := omega) only [go_sem]; with_reducible rfl)))
    | rfl)
  refine awp_cond (by simp (disch := omega) only [go_sem]; rfl) (fun hc => ?_) (fun hc => ?_)
  · have hi' : i < g.edges.length := by simpa using hc
    have hbad : ∀ h : outside g.nodes.length g.edges[i] = true, chk g = 3 := fun h => by
      simp only [chk]
      rw [if_neg (by omega), if_neg (by simp_all), if_neg (by simp [hasc]), if_pos (List.any_eq_true.2 ⟨g.edges[i], List.getElem_mem hi', h⟩)]
    generalize hx : g.edges[i] = x at hbad
    by_cases k1 : x.fr < 0
    · repeat (first
      | refine awp_seq ?_ | refine awp_block ?_ | refine awp_ret ?_ | refine awp_skip ?_ | refine awp_exit ?_ | refine awp_label ?_
      | refine then_normal ?_ | refine then_ret ?_ | refine then_exit ?_ | refine block_normal ?_ | refine block_ret ?_ | refine block_exit ?_ | refine block_out rfl ?_
      | (apply awp_reg hΓ; (focus (simp (disch := omega) only [go_sem, decide_eq_true, decide_eq_false, if_pos, if_neg, wrap_in, maxLen, hx]; with_reducible rfl)))
      | (apply awp_regf mixedOK hΓ (by kernel_rfl); (focus (simp (disch := omega) only [go_sem, decide_eq_true, decide_eq_false, if_pos, if_neg, wrap_in, maxLen, hx]; with_reducible rfl)); (focus (simp only [go_sem]; with_reducible rfl)))
      | (apply awp_regt mixedOK hΓ rfl; (focus kernel_rfl); (focus (simp (disch := omega) only [go_sem, decide_eq_true, decide_eq_false, if_pos, if_neg, wrap_in, maxLen, hx]; with_reducible rfl)); (focus (simp only [go_sem]; with_reducible rfl)); (focus (simp (disch := omega) only [go_sem, decide_eq_true, decide_eq_false, if_pos, if_neg, wrap_in, maxLen, hx]; with_reducible rfl)))
      | (apply awp_cond_t; (focus (simp (disch := omega) only [go_sem, decide_eq_true, decide_eq_false, if_pos, if_neg, wrap_in, maxLen, hx]; done))) | (apply awp_cond_f; (focus (simp (disch := omega) only [go_sem, decide_eq_true, decide_eq_false, if_pos, if_neg, wrap_in, maxLen, hx]; done)))
      | (apply ret_e; (focus (simp (disch := omega) only [go_sem, decide_eq_true, decide_eq_false, if_pos, if_neg, wrap_in, maxLen, hx]; with_reducible rfl)); (focus (simp (disch := omega) only [go_sem, decide_eq_true, decide_eq_false, if_pos, if_neg, wrap_in, maxLen, hx]; with_reducible rfl))) | (apply end_e; (focus (simp (disch := omega) only [go_sem, decide_eq_true, decide_eq_false, if_pos, if_neg, wrap_in, maxLen, hx]; with_reducible rfl)); (focus (simp (disch := omega) only [go_sem, decide_eq_true, decide_eq_false, if_pos, if_neg, wrap_in, maxLen, hx]; with_reducible rfl)))
      | rfl)
      rw [hbad (by simp [outside, k1])]
    by_cases k2 : x.fr ≥ g.nodes.length
    · repeat (first
      | refine awp_seq ?_ | refine awp_block ?_ | refine awp_ret ?_ | refine awp_skip ?_ | refine awp_exit ?_ | refine awp_label ?_
      | refine then_normal ?_ | refine then_ret ?_ | refine then_exit ?_ | refine block_normal ?_ | refine block_ret ?_ | refine block_exit ?_ | refine block_out rfl ?_
      | (apply awp_reg hΓ; (focus (simp (disch := omega) only [go_sem, decide_eq_true, decide_eq_false, if_pos, if_neg, wrap_in, maxLen, hx]; with_reducible rfl)))
      | (apply awp_regf mixedOK hΓ (by kernel_rfl); (focus (simp (disch := omega) only [go_sem, decide_eq_true, decide_eq_false, if_pos, if_neg, wrap_in, maxLen, hx]; with_reducible rfl)); (focus (simp only [go_sem]; with_reducible rfl)))
      | (apply awp_regt mixedOK hΓ rfl; (focus kernel_rfl); (focus (simp (disch := omega) only [go_sem, decide_eq_true, decide_eq_false, if_pos, if_neg, wrap_in, maxLen, hx]; with_reducible rfl)); (focus (simp only [go_sem]; with_reducible rfl)); (focus (simp (disch := omega) only [go_sem, decide_eq_true, decide_eq_false, if_pos, if_neg, wrap_in, maxLen, hx]; with_reducible rfl)))
      | (apply awp_cond_t; (focus (simp (disch := omega) only [go_sem, decide_eq_true, decide_eq_false, if_pos, if_neg, wrap_in, maxLen, hx]; done))) | (apply awp_cond_f; (focus (simp (disch := omega) only [go_sem, decide_eq_true, decide_eq_false, if_pos, if_neg, wrap_in, maxLen, hx]; done)))
      | (apply ret_e; (focus (simp (disch := omega) only [go_sem, decide_eq_true, decide_eq_false, if_pos, if_neg, wrap_in, maxLen, hx]; with_reducible rfl)); (focus (simp (disch := omega) only [go_sem, decide_eq_true, decide_eq_false, if_pos, if_neg, wrap_in, maxLen, hx]; with_reducible rfl))) | (apply end_e; (focus (simp (disch := omega) only [go_sem, decide_eq_true, decide_eq_false, if_pos, if_neg, wrap_in, maxLen, hx]; with_reducible rfl)); (focus (simp (disch := omega) only [go_sem, decide_eq_true, decide_eq_false, if_pos, if_neg, wrap_in, maxLen, hx]; with_reducible rfl)))
      | rfl)
      rw [hbad (by simp [outside, k2])]
    by_cases k3 : x.to < 0
    · repeat (first
      | refine awp_seq ?_ | refine awp_block ?_ | refine awp_ret ?_ | refine awp_skip ?_ | refine awp_exit ?_ | refine awp_label ?_
      | refine then_normal ?_ | refine then_ret ?_ | refine then_exit ?_ | refine block_normal ?_ | refine block_ret ?_ | refine block_exit ?_ | refine block_out rfl ?_
      | (apply awp_reg hΓ; (focus (simp (disch := omega) only [go_sem, decide_eq_true, decide_eq_false, if_pos, if_neg, wrap_in, maxLen, hx]; with_reducible rfl)))
      | (apply awp_regf mixedOK hΓ (by kernel_rfl); (focus (simp (disch := omega) only [go_sem, decide_eq_true, decide_eq_false, if_pos, if_neg, wrap_in, maxLen, hx]; with_reducible rfl)); (focus (simp only [go_sem]; with_reducible rfl)))
      | (apply awp_regt mixedOK hΓ rfl; (focus kernel_rfl); (focus (simp (disch := omega) only [go_sem, decide_eq_true, decide_eq_false, if_pos, if_neg, wrap_in, maxLen, hx]; with_reducible rfl)); (focus (simp only [go_sem]; with_reducible rfl)); (focus (simp (disch := omega) only [go_sem, decide_eq_true, decide_eq_false, if_pos, if_neg, wrap_in, maxLen, hx]; with_reducible rfl)))
      | (apply awp_cond_t; (focus (simp (disch := omega) only [go_sem, decide_eq_true, decide_eq_false, if_pos, if_neg, wrap_in, maxLen, hx]; done))) | (apply awp_cond_f; (focus (simp (disch := omega) only [go_sem, decide_eq_true, decide_eq_false, if_pos, if_neg, wrap_in, maxLen, hx]; done)))
      | (apply ret_e; (focus (simp (disch := omega) only [go_sem, decide_eq_true, decide_eq_false, if_pos, if_neg, wrap_in, maxLen, hx]; with_reducible rfl)); (focus (simp (disch := omega) only [go_sem, decide_eq_true, decide_eq_false, if_pos, if_neg, wrap_in, maxLen, hx]; with_reducible rfl))) | (apply end_e; (focus (simp (disch := omega) only [go_sem, decide_eq_true, decide_eq_false, if_pos, if_neg, wrap_in, maxLen, hx]; with_reducible rfl)); (focus (simp (disch := omega) only [go_sem, decide_eq_true, decide_eq_false, if_pos, if_neg, wrap_in, maxLen, hx]; with_reducible rfl)))
      | rfl)
      rw [hbad (by simp [outside, k3])]
    by_cases k4 : x.to ≥ g.nodes.length
    · repeat (first
      | refine awp_seq ?_ | refine awp_block ?_ | refine awp_ret ?_ | refine awp_skip ?_ | refine awp_exit ?_ | refine awp_label ?_
      | refine then_normal ?_ | refine then_ret ?_ | refine then_exit ?_ | refine block_normal ?_ | refine block_ret ?_ | refine block_exit ?_ | refine block_out rfl ?_
      | (apply awp_reg hΓ; (focus (simp (disch := omega) only [go_sem, decide_eq_true, decide_eq_false, if_pos, if_neg, wrap_in, maxLen, hx]; with_reducible rfl)))
      | (apply awp_regf mixedOK hΓ (by kernel_rfl); (focus (simp (disch := omega) only [go_sem, decide_eq_true, decide_eq_false, if_pos, if_neg, wrap_in, maxLen, hx]; with_reducible rfl)); (focus (simp only [go_sem]; with_reducible rfl)))
      | (apply awp_regt mixedOK hΓ rfl; (focus kernel_rfl); (focus (simp (disch := omega) only [go_sem, decide_eq_true, decide_eq_false, if_pos, if_neg, wrap_in, maxLen, hx]; with_reducible rfl)); (focus (simp only [go_sem]; with_reducible rfl)); (focus (simp (disch := omega) only [go_sem, decide_eq_true, decide_eq_false, if_pos, if_neg, wrap_in, maxLen, hx]; with_reducible rfl)))
      | (apply awp_cond_t; (focus (simp (disch := omega) only [go_sem, decide_eq_true, decide_eq_false, if_pos, if_neg, wrap_in, maxLen, hx]; done))) | (apply awp_cond_f; (focus (simp (disch := omega) only [go_sem, decide_eq_true, decide_eq_false, if_pos, if_neg, wrap_in, maxLen, hx]; done)))
      | (apply ret_e; (focus (simp (disch := omega) only [go_sem, decide_eq_true, decide_eq_false, if_pos, if_neg, wrap_in, maxLen, hx]; with_reducible rfl)); (focus (simp (disch := omega) only [go_sem, decide_eq_true, decide_eq_false, if_pos, if_neg, wrap_in, maxLen, hx]; with_reducible rfl))) | (apply end_e; (focus (simp (disch := omega) only [go_sem, decide_eq_true, decide_eq_false, if_pos, if_neg, wrap_in, maxLen, hx]; with_reducible rfl)); (focus (simp (disch := omega) only [go_sem, decide_eq_true, decide_eq_false, if_pos, if_neg, wrap_in, maxLen, hx]; with_reducible rfl)))
      | rfl)
      rw [hbad (by simp [outside, k4])]
    by_cases k5 : x.st < 0
    · repeat (first
      | refine awp_seq ?_ | refine awp_block ?_ | refine awp_ret ?_ | refine awp_skip ?_ | refine awp_exit ?_ | refine awp_label ?_
      | refine then_normal ?_ | refine then_ret ?_ | refine then_exit ?_ | refine block_normal ?_ | refine block_ret ?_ | refine block_exit ?_ | refine block_out rfl ?_
      | (apply awp_reg hΓ; (focus (simp (disch := omega) only [go_sem, decide_eq_true, decide_eq_false, if_pos, if_neg, wrap_in, maxLen, hx]; with_reducible rfl)))
      | (apply awp_regf mixedOK hΓ (by kernel_rfl); (focus (simp (disch := omega) only [go_sem, decide_eq_true, decide_eq_false, if_pos, if_neg, wrap_in, maxLen, hx]; with_reducible rfl)); (focus (simp only [go_sem]; with_reducible rfl)))
      | (apply awp_regt mixedOK hΓ rfl; (focus kernel_rfl); (focus (simp (disch := omega) only [go_sem, decide_eq_true, decide_eq_false, if_pos, if_neg, wrap_in, maxLen, hx]; with_reducible rfl)); (focus (simp only [go_sem]; with_reducible rfl)); (focus (simp (disch := omega) only [go_sem, decide_eq_true, decide_eq_false, if_pos, if_neg, wrap_in, maxLen, hx]; with_reducible rfl)))
      | (apply awp_cond_t; (focus (simp (disch := omega) only [go_sem, decide_eq_true, decide_eq_false, if_pos, if_neg, wrap_in, maxLen, hx]; done))) | (apply awp_cond_f; (focus (simp (disch := omega) only [go_sem, decide_eq_true, decide_eq_false, if_pos, if_neg, wrap_in, maxLen, hx]; done)))
      | (apply ret_e; (focus (simp (disch := omega) only [go_sem, decide_eq_true, decide_eq_false, if_pos, if_neg, wrap_in, maxLen, hx]; with_reducible rfl)); (focus (simp (disch := omega) only [go_sem, decide_eq_true, decide_eq_false, if_pos, if_neg, wrap_in, maxLen, hx]; with_reducible rfl))) | (apply end_e; (focus (simp (disch := omega) only [go_sem, decide_eq_true, decide_eq_false, if_pos, if_neg, wrap_in, maxLen, hx]; with_reducible rfl)); (focus (simp (disch := omega) only [go_sem, decide_eq_true, decide_eq_false, if_pos, if_neg, wrap_in, maxLen, hx]; with_reducible rfl)))
      | rfl)
      rw [hbad (by simp [outside, k5])]
    repeat (first
      | refine awp_seq ?_ | refine awp_block ?_ | refine awp_ret ?_ | refine awp_skip ?_ | refine awp_exit ?_ | refine awp_label ?_
      | refine then_normal ?_ | refine then_ret ?_ | refine then_exit ?_ | refine block_normal ?_ | refine block_ret ?_ | refine block_exit ?_ | refine block_out rfl ?_
      | (apply awp_reg hΓ; (focus (simp (disch := omega) only [go_sem, decide_eq_true, decide_eq_false, if_pos, if_neg, wrap_in, maxLen, hx]; with_reducible rfl)))
      | (apply awp_regf mixedOK hΓ (by kernel_rfl); (focus (simp (disch := omega) only [go_sem, decide_eq_true, decide_eq_false, if_pos, if_neg, wrap_in, maxLen, hx]; with_reducible rfl)); (focus (simp only [go_sem]; with_reducible rfl)))
      | (apply awp_regt mixedOK hΓ rfl; (focus kernel_rfl); (focus (simp (disch := omega) only [go_sem, decide_eq_true, decide_eq_false, if_pos, if_neg, wrap_in, maxLen, hx]; with_reducible rfl)); (focus (simp only [go_sem]; with_reducible rfl)); (focus (simp (disch := omega) only [go_sem, decide_eq_true, decide_eq_false, if_pos, if_neg, wrap_in, maxLen, hx]; with_reducible rfl)))
      | (apply awp_cond_t; (focus (simp (disch := omega) only [go_sem, decide_eq_true, decide_eq_false, if_pos, if_neg, wrap_in, maxLen, hx]; done))) | (apply awp_cond_f; (focus (simp (disch := omega) only [go_sem, decide_eq_true, decide_eq_false, if_pos, if_neg, wrap_in, maxLen, hx]; done)))
      | (apply ret_e; (focus (simp (disch := omega) only [go_sem, decide_eq_true, decide_eq_false, if_pos, if_neg, wrap_in, maxLen, hx]; with_reducible rfl)); (focus (simp (disch := omega) only [go_sem, decide_eq_true, decide_eq_false, if_pos, if_neg, wrap_in, maxLen, hx]; with_reducible rfl))) | (apply end_e; (focus (simp (disch := omega) only [go_sem, decide_eq_true, decide_eq_false, if_pos, if_neg, wrap_in, maxLen, hx]; with_reducible rfl)); (focus (simp (disch := omega) only [go_sem, decide_eq_true, decide_eq_false, if_pos, if_neg, wrap_in, maxLen, hx]; with_reducible rfl)))
      | rfl)
    refine ⟨i + 1, ⟨by omega, any_next hi' hpre ?_⟩, by omega, Weak.of (by omega) (by simp [ConvL, Conv, ints]) (by simp [TabSub, look, Obj.refsOK, refsOKs, AV.refsOK]) (by simp [refsOKs, AV.refsOK])⟩
    rw [hx]
    simp [outside, k1, k2, k3, k4, k5]
  have hin : g.edges.any (outside g.nodes.length) = false := by
    have : ¬ i < g.edges.length := by simpa using hc
    rw [List.take_of_length_le (by omega)] at hpre
    exact hpre
  repeat (first
    | refine awp_seq ?_ | refine awp_block ?_ | refine awp_ret ?_ | refine awp_skip ?_ | refine awp_exit ?_ | refine awp_label ?_
    | refine then_normal ?_ | refine then_ret ?_ | refine then_exit ?_ | refine block_normal ?_ | refine block_ret ?_ | refine block_exit ?_ | refine block_out rfl ?_
    | (apply awp_reg hΓ; (focus (simp (disch := omega) only [go_sem]; with_reducible rfl)))
    | (apply awp_regf mixedOK hΓ (by kernel_rfl); (focus (simp (disch := omega) only [go_sem]; with_reducible rfl)); (focus (simp only [go_sem]; with_reducible rfl)))
    | (apply awp_regt mixedOK hΓ rfl; (focus kernel_rfl); (focus (simp (disch := omega) only [go_sem]; with_reducible rfl)); (focus (simp only [go_sem]; with_reducible rfl)); (focus (simp (disch := omega) only [go_sem]; with_reducible rfl)))
    | (apply awp_cond_t; (focus (simp (disch := omega) only [go_sem]; done))) | (apply awp_cond_f; (focus (simp (disch := omega) only [go_sem]; done)))
    | (apply ret_e; (focus (simp (disch := omega) only [go_sem]; with_reducible rfl)); (focus (simp (disch := omega) only [go_sem]; with_reducible rfl))) | (apply end_e; (focus (simp (disch := omega) only [go_sem]; with_reducible rfl)); (focus (simp (disch := omega) only [go_sem]; with_reducible rfl)))
    | rfl)
  clear hi hpre hc
  refine awp_loop_at (X := Nat) (fun i => (.junk :: .ptr 0 0 :: .junk :: .junk :: .junk :: .junk :: .junk :: .data (i64 i) :: .junk :: .junk :: .junk :: .junk :: .junk :: .junk :: .junk :: .junk :: .junk :: .junk :: .junk :: .junk :: .junk :: .junk :: .junk :: .junk :: .junk :: .junk :: .junk :: .junk :: .junk :: .junk :: .junk :: .junk :: .junk :: .junk :: .junk :: .junk :: .junk :: .junk :: .junk :: .junk :: .junk :: .junk :: .junk :: .junk :: .junk :: .junk :: .junk :: .junk :: .junk :: .junk :: .junk :: .junk :: .junk :: .junk :: .junk :: .junk :: .junk :: .junk :: .junk :: .junk :: .junk :: .junk :: .junk :: .junk :: .junk :: .junk :: .junk :: .junk :: .junk :: .junk :: .junk :: .junk :: .junk :: .junk :: .junk :: .junk :: .junk :: .junk :: .junk :: .junk :: .junk :: .junk :: .junk :: .junk :: .junk :: .junk :: .junk :: .junk :: .junk :: .junk :: .junk :: .junk :: .junk :: .junk :: .junk :: .junk :: .junk :: .junk :: .junk :: .junk :: .junk :: .junk :: .junk :: .junk :: .junk :: .junk :: .junk :: .junk :: .junk :: .junk :: .junk :: .junk :: [])) (fun _ => [(0, .box [.data (.list (g.nodes.map .str)), .data (.list (g.edges.map eD))])]) 1
    (fun i => 1 ≤ i ∧ i ≤ g.edges.length + 1 ∧ AscTo eLt g.edges i) (fun i => g.edges.length + 1 - i) 1 ⟨by omega, by omega, fun j _ _ _ => by omega⟩ (Weak.of (by omega) (by simp [ConvL, Conv, ints]) (by simp [TabSub, look, Obj.refsOK, refsOKs, AV.refsOK]) (by simp [refsOKs, AV.refsOK])) ?_
  rintro k ⟨hk1, hk, hpre2⟩
  repeat (first
    | refine awp_seq ?_ | refine awp_block ?_ | refine awp_ret ?_ | refine awp_skip ?_ | refine awp_exit ?_ | refine awp_label ?_
    | refine then_normal ?_ | refine then_ret ?_ | refine then_exit ?_ | refine block_normal ?_ | refine block_ret ?_ | refine block_exit ?_ | refine block_out rfl ?_
    | (apply awp_reg hΓ; (focus (simp (disch := omega) only [go_sem]; with_reducible rfl)))
    | (apply awp_regf mixedOK hΓ (by kernel_rfl); (focus (simp (disch := omega) only [go_sem]; with_reducible rfl)); (focus (simp only [go_sem]; with_reducible rfl)))
    | (apply awp_regt mixedOK hΓ rfl; (focus kernel_rfl); (focus (simp (disch := omega) only [go_sem]; with_reducible rfl)); (focus (simp only [go_sem]; with_reducible rfl)); (focus (simp (disch := omega) only [go_sem]; with_reducible rfl)))
    | (apply awp_cond_t; (focus (simp (disch := omega) only [go_sem]; done))) | (apply awp_cond_f; (focus (simp (disch := omega) only [go_sem]; done)))
    | (apply ret_e; (focus (simp (disch := omega) only [go_sem]; with_reducible rfl)); (focus (simp (disch := omega) only [go_sem]; with_reducible rfl))) | (apply end_e; (focus (simp (disch := omega) only [go_sem]; with_reducible rfl)); (focus (simp (disch := omega) only [go_sem]; with_reducible rfl)))
    | rfl)
  refine awp_cond (by simp (disch := omega) only [go_sem]; rfl) (fun hc => ?_) (fun hc => ?_)
  · have hk' : k < g.edges.length := by simpa using hc
    have hcast : ((k : Int) - 1).toNat = k - 1 := by omega
    repeat (first
      | refine awp_seq ?_ | refine awp_block ?_ | refine awp_ret ?_ | refine awp_skip ?_ | refine awp_exit ?_ | refine awp_label ?_
      | refine then_normal ?_ | refine then_ret ?_ | refine then_exit ?_ | refine block_normal ?_ | refine block_ret ?_ | refine block_exit ?_ | refine block_out rfl ?_
      | (apply awp_reg hΓ; (focus (simp (disch := omega) only [go_sem, decide_eq_true, decide_eq_false, if_pos, if_neg, wrap_in, maxLen, hcast, Γ31]; with_reducible rfl)))
      | (apply awp_regf mixedOK hΓ (by kernel_rfl); (focus (simp (disch := omega) only [go_sem, decide_eq_true, decide_eq_false, if_pos, if_neg, wrap_in, maxLen, hcast, Γ31]; with_reducible rfl)); (focus (simp only [go_sem]; with_reducible rfl)))
      | (apply awp_regt mixedOK hΓ rfl; (focus kernel_rfl); (focus (simp (disch := omega) only [go_sem, decide_eq_true, decide_eq_false, if_pos, if_neg, wrap_in, maxLen, hcast, Γ31]; with_reducible rfl)); (focus (simp only [go_sem]; with_reducible rfl)); (focus (simp (disch := omega) only [go_sem, decide_eq_true, decide_eq_false, if_pos, if_neg, wrap_in, maxLen, hcast, Γ31]; with_reducible rfl)))
      | (apply awp_cond_t; (focus (simp (disch := omega) only [go_sem, decide_eq_true, decide_eq_false, if_pos, if_neg, wrap_in, maxLen, hcast, Γ31]; done))) | (apply awp_cond_f; (focus (simp (disch := omega) only [go_sem, decide_eq_true, decide_eq_false, if_pos, if_neg, wrap_in, maxLen, hcast, Γ31]; done)))
      | (apply ret_e; (focus (simp (disch := omega) only [go_sem, decide_eq_true, decide_eq_false, if_pos, if_neg, wrap_in, maxLen, hcast, Γ31]; with_reducible rfl)); (focus (simp (disch := omega) only [go_sem, decide_eq_true, decide_eq_false, if_pos, if_neg, wrap_in, maxLen, hcast, Γ31]; with_reducible rfl))) | (apply end_e; (focus (simp (disch := omega) only [go_sem, decide_eq_true, decide_eq_false, if_pos, if_neg, wrap_in, maxLen, hcast, Γ31]; with_reducible rfl)); (focus (simp (disch := omega) only [go_sem, decide_eq_true, decide_eq_false, if_pos, if_neg, wrap_in, maxLen, hcast, Γ31]; with_reducible rfl)))
      | rfl)
    refine awp_cond (by simp (disch := omega) only [go_sem]; rfl) (fun hc => ?_) (fun hc => ?_)
    · repeat (first
      | refine awp_seq ?_ | refine awp_block ?_ | refine awp_ret ?_ | refine awp_skip ?_ | refine awp_exit ?_ | refine awp_label ?_
      | refine then_normal ?_ | refine then_ret ?_ | refine then_exit ?_ | refine block_normal ?_ | refine block_ret ?_ | refine block_exit ?_ | refine block_out rfl ?_
      | (apply awp_reg hΓ; (focus (simp (disch := omega) only [go_sem]; with_reducible rfl)))
      | (apply awp_regf mixedOK hΓ (by kernel_rfl); (focus (simp (disch := omega) only [go_sem]; with_reducible rfl)); (focus (simp only [go_sem]; with_reducible rfl)))
      | (apply awp_regt mixedOK hΓ rfl; (focus kernel_rfl); (focus (simp (disch := omega) only [go_sem]; with_reducible rfl)); (focus (simp only [go_sem]; with_reducible rfl)); (focus (simp (disch := omega) only [go_sem]; with_reducible rfl)))
      | (apply awp_cond_t; (focus (simp (disch := omega) only [go_sem]; done))) | (apply awp_cond_f; (focus (simp (disch := omega) only [go_sem]; done)))
      | (apply ret_e; (focus (simp (disch := omega) only [go_sem]; with_reducible rfl)); (focus (simp (disch := omega) only [go_sem]; with_reducible rfl))) | (apply end_e; (focus (simp (disch := omega) only [go_sem]; with_reducible rfl)); (focus (simp (disch := omega) only [go_sem]; with_reducible rfl)))
      | rfl)
      simp only [chk]
      rw [if_neg (by omega), if_neg (by simp_all), if_neg (by simp [hasc]), if_neg (by simp_all), if_pos]
      intro h
      have h1 := h k hk1 hk'
      simp_all
    · repeat (first
      | refine awp_seq ?_ | refine awp_block ?_ | refine awp_ret ?_ | refine awp_skip ?_ | refine awp_exit ?_ | refine awp_label ?_
      | refine then_normal ?_ | refine then_ret ?_ | refine then_exit ?_ | refine block_normal ?_ | refine block_ret ?_ | refine block_exit ?_ | refine block_out rfl ?_
      | (apply awp_reg hΓ; (focus (simp (disch := omega) only [go_sem, decide_eq_true, decide_eq_false, if_pos, if_neg, wrap_in, maxLen]; with_reducible rfl)))
      | (apply awp_regf mixedOK hΓ (by kernel_rfl); (focus (simp (disch := omega) only [go_sem, decide_eq_true, decide_eq_false, if_pos, if_neg, wrap_in, maxLen]; with_reducible rfl)); (focus (simp only [go_sem]; with_reducible rfl)))
      | (apply awp_regt mixedOK hΓ rfl; (focus kernel_rfl); (focus (simp (disch := omega) only [go_sem, decide_eq_true, decide_eq_false, if_pos, if_neg, wrap_in, maxLen]; with_reducible rfl)); (focus (simp only [go_sem]; with_reducible rfl)); (focus (simp (disch := omega) only [go_sem, decide_eq_true, decide_eq_false, if_pos, if_neg, wrap_in, maxLen]; with_reducible rfl)))
      | (apply awp_cond_t; (focus (simp (disch := omega) only [go_sem, decide_eq_true, decide_eq_false, if_pos, if_neg, wrap_in, maxLen]; done))) | (apply awp_cond_f; (focus (simp (disch := omega) only [go_sem, decide_eq_true, decide_eq_false, if_pos, if_neg, wrap_in, maxLen]; done)))
      | (apply ret_e; (focus (simp (disch := omega) only [go_sem, decide_eq_true, decide_eq_false, if_pos, if_neg, wrap_in, maxLen]; with_reducible rfl)); (focus (simp (disch := omega) only [go_sem, decide_eq_true, decide_eq_false, if_pos, if_neg, wrap_in, maxLen]; with_reducible rfl))) | (apply end_e; (focus (simp (disch := omega) only [go_sem, decide_eq_true, decide_eq_false, if_pos, if_neg, wrap_in, maxLen]; with_reducible rfl)); (focus (simp (disch := omega) only [go_sem, decide_eq_true, decide_eq_false, if_pos, if_neg, wrap_in, maxLen]; with_reducible rfl)))
      | rfl)
      exact ⟨k + 1, ⟨by omega, by omega, hpre2.next hk' (by simpa using hc)⟩, by omega, Weak.of (by omega) (by simp [ConvL, Conv, ints]) (by simp [TabSub, look, Obj.refsOK, refsOKs, AV.refsOK]) (by simp [refsOKs, AV.refsOK])⟩
  · repeat (first
    | refine awp_seq ?_ | refine awp_block ?_ | refine awp_ret ?_ | refine awp_skip ?_ | refine awp_exit ?_ | refine awp_label ?_
    | refine then_normal ?_ | refine then_ret ?_ | refine then_exit ?_ | refine block_normal ?_ | refine block_ret ?_ | refine block_exit ?_ | refine block_out rfl ?_
    | (apply awp_reg hΓ; (focus (simp (disch := omega) only [go_sem]; with_reducible rfl)))
    | (apply awp_regf mixedOK hΓ (by kernel_rfl); (focus (simp (disch := omega) only [go_sem]; with_reducible rfl)); (focus (simp only [go_sem]; with_reducible rfl)))
    | (apply awp_regt mixedOK hΓ rfl; (focus kernel_rfl); (focus (simp (disch := omega) only [go_sem]; with_reducible rfl)); (focus (simp only [go_sem]; with_reducible rfl)); (focus (simp (disch := omega) only [go_sem]; with_reducible rfl)))
    | (apply awp_cond_t; (focus (simp (disch := omega) only [go_sem]; done))) | (apply awp_cond_f; (focus (simp (disch := omega) only [go_sem]; done)))
    | (apply ret_e; (focus (simp (disch := omega) only [go_sem]; with_reducible rfl)); (focus (simp (disch := omega) only [go_sem]; with_reducible rfl))) | (apply end_e; (focus (simp (disch := omega) only [go_sem]; with_reducible rfl)); (focus (simp (disch := omega) only [go_sem]; with_reducible rfl)))
    | rfl)
    have hasc2 : Asc eLt g.edges := hpre2.all (by
      have : ¬ k < g.edges.length := by simpa using hc
      omega)
    simp only [chk]
    rw [if_neg (by omega), if_neg (by simp_all), if_neg (by simp [hasc]), if_neg (by simp_all), if_neg (by simp [hasc2])]
end Go.Ab
