/-
  One text of the proof (own work): contracts of functions of the program, by the abstract machine.
-/
import Derived.Test.YtpecnbkfahekdaaA10
set_option linter.unusedVariables false
set_option linter.unusedSimpArgs false
namespace Go.Ab
open Go Go.RowKit Go.Proofs
set_option maxRecDepth 4000
set_option maxHeartbeats 1000000

theorem valid_of {g : Graph} {n : Int} (h : valid g n = true) : Fit g ∧ 0 ≤ n ∧ n < g.nodes.length := by
  simp only [valid, Bool.and_eq_true, decide_eq_true_eq] at h
  exact ⟨chk_fit h.2, h.1.1, h.1.2⟩
noncomputable def Γ25 : FuncId → Option CSpec := fun f => if f = 37 then some (.pure true g33) else if f = 44 then some (.pure true g44) else none
theorem Γ25_ok : ∀ f s, Γ25 f = some s → SpecOK Try.prog f s := by
  intro f s h
  unfold Γ25 at h
  split at h
  · rename_i hf; cases h; subst hf; exact f37_ok
  split at h
  · rename_i hf; cases h; subst hf; exact f44_ok
  · cases h
noncomputable def reach (g : Graph) (a : Int) : List Int := if valid g a then sieve g.nodes.length (fun i => leads g a i) else []
noncomputable def back (g : Graph) (a : Int) : List Int := if valid g a then sieve g.nodes.length (fun i => leads g i a) else []
noncomputable def g25 : List D → Option D := encSpec (fun x : Graph × Int => [gD x.1, i64 x.2]) (fun x => Sized x.1) (fun x => ints (reach x.1 x.2))
theorem g25_eq {g : Graph} {a : Int} (h : Sized g) : g25 [.agg [.list (g.nodes.map .str), .list (g.edges.map eD)], .int .i64 a] = some (.list ((reach g a).map i64)) :=
  encSpec_eq (x := (g, a)) h fun y hy => by
    obtain ⟨y1, y2⟩ := y
    obtain ⟨rfl, rfl⟩ := gI_inj hy
    rfl
noncomputable def g27 : List D → Option D := encSpec (fun x : Graph × Int => [gD x.1, i64 x.2]) (fun x => Sized x.1) (fun x => ints (back x.1 x.2))
theorem g27_eq {g : Graph} {a : Int} (h : Sized g) : g27 [.agg [.list (g.nodes.map .str), .list (g.edges.map eD)], .int .i64 a] = some (.list ((back g a).map i64)) :=
  encSpec_eq (x := (g, a)) h fun y hy => by
    obtain ⟨y1, y2⟩ := y
    obtain ⟨rfl, rfl⟩ := gI_inj hy
    rfl
theorem f25_ok : PureOK Try.prog 25 false g25 := by
  have hΓ := Γ25_ok
  refine pure_enc (n := 29) (rs := [.tmp 4]) Try.func25 (by kernel_rfl) rfl (by kernel_rfl) (by kernel_rfl) ?_
  rintro ⟨g, a⟩ hs
  have e33 := g33_eq (n := a) hs
  refine ⟨fun h => (by cases h), fun c hz0 => ?_⟩
  simp only [start, go_sem, emptyH, List.replicate_succ, List.replicate_zero]
  cases hv : valid g a with
  | false =>
    rw [hv] at e33
    repeat (first
      | refine awp_seq ?_ | refine awp_block ?_ | refine awp_ret ?_ | refine awp_skip ?_ | refine awp_exit ?_ | refine awp_label ?_
      | refine then_normal ?_ | refine then_ret ?_ | refine then_exit ?_ | refine block_normal ?_ | refine block_ret ?_ | refine block_exit ?_ | refine block_out rfl ?_
      | (apply awp_reg hΓ; (focus (simp (disch := omega) only [go_sem, decide_eq_true, decide_eq_false, if_pos, if_neg, wrap_in, maxLen, Γ25, e33]; with_reducible rfl)))
      | (apply awp_regf mixedOK hΓ (by kernel_rfl); (focus (simp (disch := omega) only [go_sem, decide_eq_true, decide_eq_false, if_pos, if_neg, wrap_in, maxLen, Γ25, e33]; with_reducible rfl)); (focus (simp only [go_sem]; with_reducible rfl)))
      | (apply awp_regt mixedOK hΓ rfl; (focus kernel_rfl); (focus (simp (disch := omega) only [go_sem, decide_eq_true, decide_eq_false, if_pos, if_neg, wrap_in, maxLen, Γ25, e33]; with_reducible rfl)); (focus (simp only [go_sem]; with_reducible rfl)); (focus (simp (disch := omega) only [go_sem, decide_eq_true, decide_eq_false, if_pos, if_neg, wrap_in, maxLen, Γ25, e33]; with_reducible rfl)))
      | (apply awp_cond_t; (focus (simp (disch := omega) only [go_sem, decide_eq_true, decide_eq_false, if_pos, if_neg, wrap_in, maxLen, Γ25, e33]; done))) | (apply awp_cond_f; (focus (simp (disch := omega) only [go_sem, decide_eq_true, decide_eq_false, if_pos, if_neg, wrap_in, maxLen, Γ25, e33]; done)))
      | (apply ret_e; (focus (simp (disch := omega) only [go_sem, decide_eq_true, decide_eq_false, if_pos, if_neg, wrap_in, maxLen, Γ25, e33]; with_reducible rfl)); (focus (simp (disch := omega) only [go_sem, decide_eq_true, decide_eq_false, if_pos, if_neg, wrap_in, maxLen, Γ25, e33]; with_reducible rfl))) | (apply end_e; (focus (simp (disch := omega) only [go_sem, decide_eq_true, decide_eq_false, if_pos, if_neg, wrap_in, maxLen, Γ25, e33]; with_reducible rfl)); (focus (simp (disch := omega) only [go_sem, decide_eq_true, decide_eq_false, if_pos, if_neg, wrap_in, maxLen, Γ25, e33]; with_reducible rfl)))
      | rfl)
    simp [reach, hv, ints]
  | true =>
    rw [hv] at e33
    obtain ⟨hfit, ha0, ha1⟩ := valid_of hv
    repeat (first
      | refine awp_seq ?_ | refine awp_block ?_ | refine awp_ret ?_ | refine awp_skip ?_ | refine awp_exit ?_ | refine awp_label ?_
      | refine then_normal ?_ | refine then_ret ?_ | refine then_exit ?_ | refine block_normal ?_ | refine block_ret ?_ | refine block_exit ?_ | refine block_out rfl ?_
      | (apply awp_reg hΓ; (focus (simp (disch := omega) only [go_sem, decide_eq_true, decide_eq_false, if_pos, if_neg, wrap_in, maxLen, Γ25, e33]; with_reducible rfl)))
      | (apply awp_regf mixedOK hΓ (by kernel_rfl); (focus (simp (disch := omega) only [go_sem, decide_eq_true, decide_eq_false, if_pos, if_neg, wrap_in, maxLen, Γ25, e33]; with_reducible rfl)); (focus (simp only [go_sem]; with_reducible rfl)))
      | (apply awp_regt mixedOK hΓ rfl; (focus kernel_rfl); (focus (simp (disch := omega) only [go_sem, decide_eq_true, decide_eq_false, if_pos, if_neg, wrap_in, maxLen, Γ25, e33]; with_reducible rfl)); (focus (simp only [go_sem]; with_reducible rfl)); (focus (simp (disch := omega) only [go_sem, decide_eq_true, decide_eq_false, if_pos, if_neg, wrap_in, maxLen, Γ25, e33]; with_reducible rfl)))
      | (apply awp_cond_t; (focus (simp (disch := omega) only [go_sem, decide_eq_true, decide_eq_false, if_pos, if_neg, wrap_in, maxLen, Γ25, e33]; done))) | (apply awp_cond_f; (focus (simp (disch := omega) only [go_sem, decide_eq_true, decide_eq_false, if_pos, if_neg, wrap_in, maxLen, Γ25, e33]; done)))
      | (apply ret_e; (focus (simp (disch := omega) only [go_sem, decide_eq_true, decide_eq_false, if_pos, if_neg, wrap_in, maxLen, Γ25, e33]; with_reducible rfl)); (focus (simp (disch := omega) only [go_sem, decide_eq_true, decide_eq_false, if_pos, if_neg, wrap_in, maxLen, Γ25, e33]; with_reducible rfl))) | (apply end_e; (focus (simp (disch := omega) only [go_sem, decide_eq_true, decide_eq_false, if_pos, if_neg, wrap_in, maxLen, Γ25, e33]; with_reducible rfl)); (focus (simp (disch := omega) only [go_sem, decide_eq_true, decide_eq_false, if_pos, if_neg, wrap_in, maxLen, Γ25, e33]; with_reducible rfl)))
      | rfl)
    have hn := hfit.nodes
    refine awp_loop_at (X := Nat) (fun i => (.junk :: .data (i64 a) :: .ptr 0 0 :: .junk :: .junk :: .row 2 (sieve i (fun i : Nat => leads g a i)).length :: .data (i64 i) :: .junk :: .junk :: .junk :: .junk :: .junk :: .junk :: .junk :: .junk :: .junk :: .junk :: .junk :: .junk :: .junk :: .junk :: .junk :: .junk :: .junk :: .junk :: .junk :: .junk :: .junk :: .junk :: []))
      (fun i => [(0, .box [.data (.list (g.nodes.map .str)), .data (.list (g.edges.map eD))]), (2, .row 3 1 ((sieve i (fun i : Nat => leads g a i)).map i64))]) 3
      (fun i => i ≤ g.nodes.length) (fun i => g.nodes.length - i) 0 (Nat.zero_le _) (Weak.of (by omega) (by simp [ConvL, Conv, ints, sieve]) (by simp [TabSub, look, Obj.refsOK, refsOKs, AV.refsOK, sieve]) (by simp [refsOKs, AV.refsOK])) ?_
    intro i hi
    repeat (first
      | refine awp_seq ?_ | refine awp_block ?_ | refine awp_ret ?_ | refine awp_skip ?_ | refine awp_exit ?_ | refine awp_label ?_
      | refine then_normal ?_ | refine then_ret ?_ | refine then_exit ?_ | refine block_normal ?_ | refine block_ret ?_ | refine block_exit ?_ | refine block_out rfl ?_
      | (apply awp_reg hΓ; (focus (simp (disch := omega) only [go_sem, decide_eq_true, decide_eq_false, if_pos, if_neg, wrap_in, maxLen]; with_reducible rfl)))
      | (apply awp_regf mixedOK hΓ (by kernel_rfl); (focus (simp (disch := omega) only [go_sem, decide_eq_true, decide_eq_false, if_pos, if_neg, wrap_in, maxLen]; with_reducible rfl)); (focus (simp only [go_sem]; with_reducible rfl)))
      | (apply awp_regt mixedOK hΓ rfl; (focus kernel_rfl); (focus (simp (disch := omega) only [go_sem, decide_eq_true, decide_eq_false, if_pos, if_neg, wrap_in, maxLen]; with_reducible rfl)); (focus (simp only [go_sem]; with_reducible rfl)); (focus (simp (disch := omega) only [go_sem, decide_eq_true, decide_eq_false, if_pos, if_neg, wrap_in, maxLen]; with_reducible rfl)))
      | (apply awp_cond_t; (focus (simp (disch := omega) only [go_sem, decide_eq_true, decide_eq_false, if_pos, if_neg, wrap_in, maxLen]; done))) | (apply awp_cond_f; (focus (simp (disch := omega) only [go_sem, decide_eq_true, decide_eq_false, if_pos, if_neg, wrap_in, maxLen]; done)))
      | (apply ret_e; (focus (simp (disch := omega) only [go_sem, decide_eq_true, decide_eq_false, if_pos, if_neg, wrap_in, maxLen]; with_reducible rfl)); (focus (simp (disch := omega) only [go_sem, decide_eq_true, decide_eq_false, if_pos, if_neg, wrap_in, maxLen]; with_reducible rfl))) | (apply end_e; (focus (simp (disch := omega) only [go_sem, decide_eq_true, decide_eq_false, if_pos, if_neg, wrap_in, maxLen]; with_reducible rfl)); (focus (simp (disch := omega) only [go_sem, decide_eq_true, decide_eq_false, if_pos, if_neg, wrap_in, maxLen]; with_reducible rfl)))
      | rfl)
    refine awp_cond (by simp (disch := omega) only [go_sem]; rfl) (fun hc => ?_) (fun hc => ?_)
    · have hi' : i < g.nodes.length := by simpa using hc
      have e44 := (g44_eq (a := a) (b := i) hfit (by omega) (by omega))
      have hsl := sieve_len i (fun i : Nat => leads g a i)
      have hsucc := sieve_succ i (fun i : Nat => leads g a i)
      repeat (first
        | refine awp_seq ?_ | refine awp_block ?_ | refine awp_ret ?_ | refine awp_skip ?_ | refine awp_exit ?_ | refine awp_label ?_
        | refine then_normal ?_ | refine then_ret ?_ | refine then_exit ?_ | refine block_normal ?_ | refine block_ret ?_ | refine block_exit ?_ | refine block_out rfl ?_
        | (apply awp_reg hΓ; (focus (simp (disch := omega) only [go_sem, decide_eq_true, decide_eq_false, if_pos, if_neg, wrap_in, maxLen, Γ25, e44]; with_reducible rfl)))
        | (apply awp_regf mixedOK hΓ (by kernel_rfl); (focus (simp (disch := omega) only [go_sem, decide_eq_true, decide_eq_false, if_pos, if_neg, wrap_in, maxLen, Γ25, e44]; with_reducible rfl)); (focus (simp only [go_sem]; with_reducible rfl)))
        | (apply awp_regt mixedOK hΓ rfl; (focus kernel_rfl); (focus (simp (disch := omega) only [go_sem, decide_eq_true, decide_eq_false, if_pos, if_neg, wrap_in, maxLen, Γ25, e44]; with_reducible rfl)); (focus (simp only [go_sem]; with_reducible rfl)); (focus (simp (disch := omega) only [go_sem, decide_eq_true, decide_eq_false, if_pos, if_neg, wrap_in, maxLen, Γ25, e44]; with_reducible rfl)))
        | (apply awp_cond_t; (focus (simp (disch := omega) only [go_sem, decide_eq_true, decide_eq_false, if_pos, if_neg, wrap_in, maxLen, Γ25, e44]; done))) | (apply awp_cond_f; (focus (simp (disch := omega) only [go_sem, decide_eq_true, decide_eq_false, if_pos, if_neg, wrap_in, maxLen, Γ25, e44]; done)))
        | (apply ret_e; (focus (simp (disch := omega) only [go_sem, decide_eq_true, decide_eq_false, if_pos, if_neg, wrap_in, maxLen, Γ25, e44]; with_reducible rfl)); (focus (simp (disch := omega) only [go_sem, decide_eq_true, decide_eq_false, if_pos, if_neg, wrap_in, maxLen, Γ25, e44]; with_reducible rfl))) | (apply end_e; (focus (simp (disch := omega) only [go_sem, decide_eq_true, decide_eq_false, if_pos, if_neg, wrap_in, maxLen, Γ25, e44]; with_reducible rfl)); (focus (simp (disch := omega) only [go_sem, decide_eq_true, decide_eq_false, if_pos, if_neg, wrap_in, maxLen, Γ25, e44]; with_reducible rfl)))
        | rfl)
      refine awp_cond (by simp (disch := omega) only [go_sem]; rfl) (fun hc => ?_) (fun hc => ?_)
      · repeat (first
        | refine awp_seq ?_ | refine awp_block ?_ | refine awp_ret ?_ | refine awp_skip ?_ | refine awp_exit ?_ | refine awp_label ?_
        | refine then_normal ?_ | refine then_ret ?_ | refine then_exit ?_ | refine block_normal ?_ | refine block_ret ?_ | refine block_exit ?_ | refine block_out rfl ?_
        | (apply awp_reg hΓ; (focus (simp (disch := omega) only [go_sem, decide_eq_true, decide_eq_false, if_pos, if_neg, wrap_in, maxLen]; with_reducible rfl)))
        | (apply awp_regf mixedOK hΓ (by kernel_rfl); (focus (simp (disch := omega) only [go_sem, decide_eq_true, decide_eq_false, if_pos, if_neg, wrap_in, maxLen]; with_reducible rfl)); (focus (simp only [go_sem]; with_reducible rfl)))
        | (apply awp_regt mixedOK hΓ rfl; (focus kernel_rfl); (focus (simp (disch := omega) only [go_sem, decide_eq_true, decide_eq_false, if_pos, if_neg, wrap_in, maxLen]; with_reducible rfl)); (focus (simp only [go_sem]; with_reducible rfl)); (focus (simp (disch := omega) only [go_sem, decide_eq_true, decide_eq_false, if_pos, if_neg, wrap_in, maxLen]; with_reducible rfl)))
        | (apply awp_cond_t; (focus (simp (disch := omega) only [go_sem, decide_eq_true, decide_eq_false, if_pos, if_neg, wrap_in, maxLen]; done))) | (apply awp_cond_f; (focus (simp (disch := omega) only [go_sem, decide_eq_true, decide_eq_false, if_pos, if_neg, wrap_in, maxLen]; done)))
        | (apply ret_e; (focus (simp (disch := omega) only [go_sem, decide_eq_true, decide_eq_false, if_pos, if_neg, wrap_in, maxLen]; with_reducible rfl)); (focus (simp (disch := omega) only [go_sem, decide_eq_true, decide_eq_false, if_pos, if_neg, wrap_in, maxLen]; with_reducible rfl))) | (apply end_e; (focus (simp (disch := omega) only [go_sem, decide_eq_true, decide_eq_false, if_pos, if_neg, wrap_in, maxLen]; with_reducible rfl)); (focus (simp (disch := omega) only [go_sem, decide_eq_true, decide_eq_false, if_pos, if_neg, wrap_in, maxLen]; with_reducible rfl)))
        | rfl)
        refine ⟨i + 1, by omega, by omega, Weak.of (by omega) (by simp [ConvL, Conv, ints, hsucc, hc]) (by simp [TabSub, look, Obj.refsOK, refsOKs, AV.refsOK, hsucc, hc]) (by simp [refsOKs, AV.refsOK])⟩
      · repeat (first
        | refine awp_seq ?_ | refine awp_block ?_ | refine awp_ret ?_ | refine awp_skip ?_ | refine awp_exit ?_ | refine awp_label ?_
        | refine then_normal ?_ | refine then_ret ?_ | refine then_exit ?_ | refine block_normal ?_ | refine block_ret ?_ | refine block_exit ?_ | refine block_out rfl ?_
        | (apply awp_reg hΓ; (focus (simp (disch := omega) only [go_sem, decide_eq_true, decide_eq_false, if_pos, if_neg, wrap_in, maxLen]; with_reducible rfl)))
        | (apply awp_regf mixedOK hΓ (by kernel_rfl); (focus (simp (disch := omega) only [go_sem, decide_eq_true, decide_eq_false, if_pos, if_neg, wrap_in, maxLen]; with_reducible rfl)); (focus (simp only [go_sem]; with_reducible rfl)))
        | (apply awp_regt mixedOK hΓ rfl; (focus kernel_rfl); (focus (simp (disch := omega) only [go_sem, decide_eq_true, decide_eq_false, if_pos, if_neg, wrap_in, maxLen]; with_reducible rfl)); (focus (simp only [go_sem]; with_reducible rfl)); (focus (simp (disch := omega) only [go_sem, decide_eq_true, decide_eq_false, if_pos, if_neg, wrap_in, maxLen]; with_reducible rfl)))
        | (apply awp_cond_t; (focus (simp (disch := omega) only [go_sem, decide_eq_true, decide_eq_false, if_pos, if_neg, wrap_in, maxLen]; done))) | (apply awp_cond_f; (focus (simp (disch := omega) only [go_sem, decide_eq_true, decide_eq_false, if_pos, if_neg, wrap_in, maxLen]; done)))
        | (apply ret_e; (focus (simp (disch := omega) only [go_sem, decide_eq_true, decide_eq_false, if_pos, if_neg, wrap_in, maxLen]; with_reducible rfl)); (focus (simp (disch := omega) only [go_sem, decide_eq_true, decide_eq_false, if_pos, if_neg, wrap_in, maxLen]; with_reducible rfl))) | (apply end_e; (focus (simp (disch := omega) only [go_sem, decide_eq_true, decide_eq_false, if_pos, if_neg, wrap_in, maxLen]; with_reducible rfl)); (focus (simp (disch := omega) only [go_sem, decide_eq_true, decide_eq_false, if_pos, if_neg, wrap_in, maxLen]; with_reducible rfl)))
        | rfl)
        refine ⟨i + 1, by omega, by omega, Weak.of (by omega) (by simp [ConvL, Conv, ints, hsucc, hc]) (by simp [TabSub, look, Obj.refsOK, refsOKs, AV.refsOK, hsucc, hc]) (by simp [refsOKs, AV.refsOK])⟩
    · repeat (first
      | refine awp_seq ?_ | refine awp_block ?_ | refine awp_ret ?_ | refine awp_skip ?_ | refine awp_exit ?_ | refine awp_label ?_
      | refine then_normal ?_ | refine then_ret ?_ | refine then_exit ?_ | refine block_normal ?_ | refine block_ret ?_ | refine block_exit ?_ | refine block_out rfl ?_
      | (apply awp_reg hΓ; (focus (simp (disch := omega) only [go_sem, decide_eq_true, decide_eq_false, if_pos, if_neg, wrap_in, maxLen]; with_reducible rfl)))
      | (apply awp_regf mixedOK hΓ (by kernel_rfl); (focus (simp (disch := omega) only [go_sem, decide_eq_true, decide_eq_false, if_pos, if_neg, wrap_in, maxLen]; with_reducible rfl)); (focus (simp only [go_sem]; with_reducible rfl)))
      | (apply awp_regt mixedOK hΓ rfl; (focus kernel_rfl); (focus (simp (disch := omega) only [go_sem, decide_eq_true, decide_eq_false, if_pos, if_neg, wrap_in, maxLen]; with_reducible rfl)); (focus (simp only [go_sem]; with_reducible rfl)); (focus (simp (disch := omega) only [go_sem, decide_eq_true, decide_eq_false, if_pos, if_neg, wrap_in, maxLen]; with_reducible rfl)))
      | (apply awp_cond_t; (focus (simp (disch := omega) only [go_sem, decide_eq_true, decide_eq_false, if_pos, if_neg, wrap_in, maxLen]; done))) | (apply awp_cond_f; (focus (simp (disch := omega) only [go_sem, decide_eq_true, decide_eq_false, if_pos, if_neg, wrap_in, maxLen]; done)))
      | (apply ret_e; (focus (simp (disch := omega) only [go_sem, decide_eq_true, decide_eq_false, if_pos, if_neg, wrap_in, maxLen]; with_reducible rfl)); (focus (simp (disch := omega) only [go_sem, decide_eq_true, decide_eq_false, if_pos, if_neg, wrap_in, maxLen]; with_reducible rfl))) | (apply end_e; (focus (simp (disch := omega) only [go_sem, decide_eq_true, decide_eq_false, if_pos, if_neg, wrap_in, maxLen]; with_reducible rfl)); (focus (simp (disch := omega) only [go_sem, decide_eq_true, decide_eq_false, if_pos, if_neg, wrap_in, maxLen]; with_reducible rfl)))
      | rfl)
      have : ¬ i < g.nodes.length := by simpa using hc
      simp only [reach, hv, if_true]
      rw [show i = g.nodes.length from by omega]

theorem f27_ok : PureOK Try.prog 27 false g27 := by
  have hΓ := Γ25_ok
  refine pure_enc (n := 29) (rs := [.tmp 4]) Try.func27 (by kernel_rfl) rfl (by kernel_rfl) (by kernel_rfl) ?_
  rintro ⟨g, a⟩ hs
  have e33 := g33_eq (n := a) hs
  refine ⟨fun h => (by cases h), fun c hz0 => ?_⟩
  simp only [start, go_sem, emptyH, List.replicate_succ, List.replicate_zero]
  cases hv : valid g a with
  | false =>
    rw [hv] at e33
    repeat (first
      | refine awp_seq ?_ | refine awp_block ?_ | refine awp_ret ?_ | refine awp_skip ?_ | refine awp_exit ?_ | refine awp_label ?_
      | refine then_normal ?_ | refine then_ret ?_ | refine then_exit ?_ | refine block_normal ?_ | refine block_ret ?_ | refine block_exit ?_ | refine block_out rfl ?_
      | (apply awp_reg hΓ; (focus (simp (disch := omega) only [go_sem, decide_eq_true, decide_eq_false, if_pos, if_neg, wrap_in, maxLen, Γ25, e33]; with_reducible rfl)))
      | (apply awp_regf mixedOK hΓ (by kernel_rfl); (focus (simp (disch := omega) only [go_sem, decide_eq_true, decide_eq_false, if_pos, if_neg, wrap_in, maxLen, Γ25, e33]; with_reducible rfl)); (focus (simp only [go_sem]; with_reducible rfl)))
      | (apply awp_regt mixedOK hΓ rfl; (focus kernel_rfl); (focus (simp (disch := omega) only [go_sem, decide_eq_true, decide_eq_false, if_pos, if_neg, wrap_in, maxLen, Γ25, e33]; with_reducible rfl)); (focus (simp only [go_sem]; with_reducible rfl)); (focus (simp (disch := omega) only [go_sem, decide_eq_true, decide_eq_false, if_pos, if_neg, wrap_in, maxLen, Γ25, e33]; with_reducible rfl)))
      | (apply awp_cond_t; (focus (simp (disch := omega) only [go_sem, decide_eq_true, decide_eq_false, if_pos, if_neg, wrap_in, maxLen, Γ25, e33]; done))) | (apply awp_cond_f; (focus (simp (disch := omega) only [go_sem, decide_eq_true, decide_eq_false, if_pos, if_neg, wrap_in, maxLen, Γ25, e33]; done)))
      | (apply ret_e; (focus (simp (disch := omega) only [go_sem, decide_eq_true, decide_eq_false, if_pos, if_neg, wrap_in, maxLen, Γ25, e33]; with_reducible rfl)); (focus (simp (disch := omega) only [go_sem, decide_eq_true, decide_eq_false, if_pos, if_neg, wrap_in, maxLen, Γ25, e33]; with_reducible rfl))) | (apply end_e; (focus (simp (disch := omega) only [go_sem, decide_eq_true, decide_eq_false, if_pos, if_neg, wrap_in, maxLen, Γ25, e33]; with_reducible rfl)); (focus (simp (disch := omega) only [go_sem, decide_eq_true, decide_eq_false, if_pos, if_neg, wrap_in, maxLen, Γ25, e33]; with_reducible rfl)))
      | rfl)
    simp [back, hv, ints]
  | true =>
    rw [hv] at e33
    obtain ⟨hfit, ha0, ha1⟩ := valid_of hv
    repeat (first
      | refine awp_seq ?_ | refine awp_block ?_ | refine awp_ret ?_ | refine awp_skip ?_ | refine awp_exit ?_ | refine awp_label ?_
      | refine then_normal ?_ | refine then_ret ?_ | refine then_exit ?_ | refine block_normal ?_ | refine block_ret ?_ | refine block_exit ?_ | refine block_out rfl ?_
      | (apply awp_reg hΓ; (focus (simp (disch := omega) only [go_sem, decide_eq_true, decide_eq_false, if_pos, if_neg, wrap_in, maxLen, Γ25, e33]; with_reducible rfl)))
      | (apply awp_regf mixedOK hΓ (by kernel_rfl); (focus (simp (disch := omega) only [go_sem, decide_eq_true, decide_eq_false, if_pos, if_neg, wrap_in, maxLen, Γ25, e33]; with_reducible rfl)); (focus (simp only [go_sem]; with_reducible rfl)))
      | (apply awp_regt mixedOK hΓ rfl; (focus kernel_rfl); (focus (simp (disch := omega) only [go_sem, decide_eq_true, decide_eq_false, if_pos, if_neg, wrap_in, maxLen, Γ25, e33]; with_reducible rfl)); (focus (simp only [go_sem]; with_reducible rfl)); (focus (simp (disch := omega) only [go_sem, decide_eq_true, decide_eq_false, if_pos, if_neg, wrap_in, maxLen, Γ25, e33]; with_reducible rfl)))
      | (apply awp_cond_t; (focus (simp (disch := omega) only [go_sem, decide_eq_true, decide_eq_false, if_pos, if_neg, wrap_in, maxLen, Γ25, e33]; done))) | (apply awp_cond_f; (focus (simp (disch := omega) only [go_sem, decide_eq_true, decide_eq_false, if_pos, if_neg, wrap_in, maxLen, Γ25, e33]; done)))
      | (apply ret_e; (focus (simp (disch := omega) only [go_sem, decide_eq_true, decide_eq_false, if_pos, if_neg, wrap_in, maxLen, Γ25, e33]; with_reducible rfl)); (focus (simp (disch := omega) only [go_sem, decide_eq_true, decide_eq_false, if_pos, if_neg, wrap_in, maxLen, Γ25, e33]; with_reducible rfl))) | (apply end_e; (focus (simp (disch := omega) only [go_sem, decide_eq_true, decide_eq_false, if_pos, if_neg, wrap_in, maxLen, Γ25, e33]; with_reducible rfl)); (focus (simp (disch := omega) only [go_sem, decide_eq_true, decide_eq_false, if_pos, if_neg, wrap_in, maxLen, Γ25, e33]; with_reducible rfl)))
      | rfl)
    have hn := hfit.nodes
    refine awp_loop_at (X := Nat) (fun i => (.junk :: .data (i64 a) :: .ptr 0 0 :: .junk :: .junk :: .row 2 (sieve i (fun i : Nat => leads g i a)).length :: .data (i64 i) :: .junk :: .junk :: .junk :: .junk :: .junk :: .junk :: .junk :: .junk :: .junk :: .junk :: .junk :: .junk :: .junk :: .junk :: .junk :: .junk :: .junk :: .junk :: .junk :: .junk :: .junk :: .junk :: []))
      (fun i => [(0, .box [.data (.list (g.nodes.map .str)), .data (.list (g.edges.map eD))]), (2, .row 3 1 ((sieve i (fun i : Nat => leads g i a)).map i64))]) 3
      (fun i => i ≤ g.nodes.length) (fun i => g.nodes.length - i) 0 (Nat.zero_le _) (Weak.of (by omega) (by simp [ConvL, Conv, ints, sieve]) (by simp [TabSub, look, Obj.refsOK, refsOKs, AV.refsOK, sieve]) (by simp [refsOKs, AV.refsOK])) ?_
    intro i hi
    repeat (first
      | refine awp_seq ?_ | refine awp_block ?_ | refine awp_ret ?_ | refine awp_skip ?_ | refine awp_exit ?_ | refine awp_label ?_
      | refine then_normal ?_ | refine then_ret ?_ | refine then_exit ?_ | refine block_normal ?_ | refine block_ret ?_ | refine block_exit ?_ | refine block_out rfl ?_
      | (apply awp_reg hΓ; (focus (simp (disch := omega) only [go_sem, decide_eq_true, decide_eq_false, if_pos, if_neg, wrap_in, maxLen]; with_reducible rfl)))
      | (apply awp_regf mixedOK hΓ (by kernel_rfl); (focus (simp (disch := omega) only [go_sem, decide_eq_true, decide_eq_false, if_pos, if_neg, wrap_in, maxLen]; with_reducible rfl)); (focus (simp only [go_sem]; with_reducible rfl)))
      | (apply awp_regt mixedOK hΓ rfl; (focus kernel_rfl); (focus (simp (disch := omega) only [go_sem, decide_eq_true, decide_eq_false, if_pos, if_neg, wrap_in, maxLen]; with_reducible rfl)); (focus (simp only [go_sem]; with_reducible rfl)); (focus (simp (disch := omega) only [go_sem, decide_eq_true, decide_eq_false, if_pos, if_neg, wrap_in, maxLen]; with_reducible rfl)))
      | (apply awp_cond_t; (focus (simp (disch := omega) only [go_sem, decide_eq_true, decide_eq_false, if_pos, if_neg, wrap_in, maxLen]; done))) | (apply awp_cond_f; (focus (simp (disch := omega) only [go_sem, decide_eq_true, decide_eq_false, if_pos, if_neg, wrap_in, maxLen]; done)))
      | (apply ret_e; (focus (simp (disch := omega) only [go_sem, decide_eq_true, decide_eq_false, if_pos, if_neg, wrap_in, maxLen]; with_reducible rfl)); (focus (simp (disch := omega) only [go_sem, decide_eq_true, decide_eq_false, if_pos, if_neg, wrap_in, maxLen]; with_reducible rfl))) | (apply end_e; (focus (simp (disch := omega) only [go_sem, decide_eq_true, decide_eq_false, if_pos, if_neg, wrap_in, maxLen]; with_reducible rfl)); (focus (simp (disch := omega) only [go_sem, decide_eq_true, decide_eq_false, if_pos, if_neg, wrap_in, maxLen]; with_reducible rfl)))
      | rfl)
    refine awp_cond (by simp (disch := omega) only [go_sem]; rfl) (fun hc => ?_) (fun hc => ?_)
    · have hi' : i < g.nodes.length := by simpa using hc
      have e44 := (g44_eq (a := i) (b := a) hfit ha0 ha1)
      have hsl := sieve_len i (fun i : Nat => leads g i a)
      have hsucc := sieve_succ i (fun i : Nat => leads g i a)
      repeat (first
        | refine awp_seq ?_ | refine awp_block ?_ | refine awp_ret ?_ | refine awp_skip ?_ | refine awp_exit ?_ | refine awp_label ?_
        | refine then_normal ?_ | refine then_ret ?_ | refine then_exit ?_ | refine block_normal ?_ | refine block_ret ?_ | refine block_exit ?_ | refine block_out rfl ?_
        | (apply awp_reg hΓ; (focus (simp (disch := omega) only [go_sem, decide_eq_true, decide_eq_false, if_pos, if_neg, wrap_in, maxLen, Γ25, e44]; with_reducible rfl)))
        | (apply awp_regf mixedOK hΓ (by kernel_rfl); (focus (simp (disch := omega) only [go_sem, decide_eq_true, decide_eq_false, if_pos, if_neg, wrap_in, maxLen, Γ25, e44]; with_reducible rfl)); (focus (simp only [go_sem]; with_reducible rfl)))
        | (apply awp_regt mixedOK hΓ rfl; (focus kernel_rfl); (focus (simp (disch := omega) only [go_sem, decide_eq_true, decide_eq_false, if_pos, if_neg, wrap_in, maxLen, Γ25, e44]; with_reducible rfl)); (focus (simp only [go_sem]; with_reducible rfl)); (focus (simp (disch := omega) only [go_sem, decide_eq_true, decide_eq_false, if_pos, if_neg, wrap_in, maxLen, Γ25, e44]; with_reducible rfl)))
        | (apply awp_cond_t; (focus (simp (disch := omega) only [go_sem, decide_eq_true, decide_eq_false, if_pos, if_neg, wrap_in, maxLen, Γ25, e44]; done))) | (apply awp_cond_f; (focus (simp (disch := omega) only [go_sem, decide_eq_true, decide_eq_false, if_pos, if_neg, wrap_in, maxLen, Γ25, e44]; done)))
        | (apply ret_e; (focus (simp (disch := omega) only [go_sem, decide_eq_true, decide_eq_false, if_pos, if_neg, wrap_in, maxLen, Γ25, e44]; with_reducible rfl)); (focus (simp (disch := omega) only [go_sem, decide_eq_true, decide_eq_false, if_pos, if_neg, wrap_in, maxLen, Γ25, e44]; with_reducible rfl))) | (apply end_e; (focus (simp (disch := omega) only [go_sem, decide_eq_true, decide_eq_false, if_pos, if_neg, wrap_in, maxLen, Γ25, e44]; with_reducible rfl)); (focus (simp (disch := omega) only [go_sem, decide_eq_true, decide_eq_false, if_pos, if_neg, wrap_in, maxLen, Γ25, e44]; with_reducible rfl)))
        | rfl)
      refine awp_cond (by simp (disch := omega) only [go_sem]; rfl) (fun hc => ?_) (fun hc => ?_)
      · repeat (first
        | refine awp_seq ?_ | refine awp_block ?_ | refine awp_ret ?_ | refine awp_skip ?_ | refine awp_exit ?_ | refine awp_label ?_
        | refine then_normal ?_ | refine then_ret ?_ | refine then_exit ?_ | refine block_normal ?_ | refine block_ret ?_ | refine block_exit ?_ | refine block_out rfl ?_
        | (apply awp_reg hΓ; (focus (simp (disch := omega) only [go_sem, decide_eq_true, decide_eq_false, if_pos, if_neg, wrap_in, maxLen]; with_reducible rfl)))
        | (apply awp_regf mixedOK hΓ (by kernel_rfl); (focus (simp (disch := omega) only [go_sem, decide_eq_true, decide_eq_false, if_pos, if_neg, wrap_in, maxLen]; with_reducible rfl)); (focus (simp only [go_sem]; with_reducible rfl)))
        | (apply awp_regt mixedOK hΓ rfl; (focus kernel_rfl); (focus (simp (disch := omega) only [go_sem, decide_eq_true, decide_eq_false, if_pos, if_neg, wrap_in, maxLen]; with_reducible rfl)); (focus (simp only [go_sem]; with_reducible rfl)); (focus (simp (disch := omega) only [go_sem, decide_eq_true, decide_eq_false, if_pos, if_neg, wrap_in, maxLen]; with_reducible rfl)))
        | (apply awp_cond_t; (focus (simp (disch := omega) only [go_sem, decide_eq_true, decide_eq_false, if_pos, if_neg, wrap_in, maxLen]; done))) | (apply awp_cond_f; (focus (simp (disch := omega) only [go_sem, decide_eq_true, decide_eq_false, if_pos, if_neg, wrap_in, maxLen]; done)))
        | (apply ret_e; (focus (simp (disch := omega) only [go_sem, decide_eq_true, decide_eq_false, if_pos, if_neg, wrap_in, maxLen]; with_reducible rfl)); (focus (simp (disch := omega) only [go_sem, decide_eq_true, decide_eq_false, if_pos, if_neg, wrap_in, maxLen]; with_reducible rfl))) | (apply end_e; (focus (simp (disch := omega) only [go_sem, decide_eq_true, decide_eq_false, if_pos, if_neg, wrap_in, maxLen]; with_reducible rfl)); (focus (simp (disch := omega) only [go_sem, decide_eq_true, decide_eq_false, if_pos, if_neg, wrap_in, maxLen]; with_reducible rfl)))
        | rfl)
        refine ⟨i + 1, by omega, by omega, Weak.of (by omega) (by simp [ConvL, Conv, ints, hsucc, hc]) (by simp [TabSub, look, Obj.refsOK, refsOKs, AV.refsOK, hsucc, hc]) (by simp [refsOKs, AV.refsOK])⟩
      · repeat (first
        | refine awp_seq ?_ | refine awp_block ?_ | refine awp_ret ?_ | refine awp_skip ?_ | refine awp_exit ?_ | refine awp_label ?_
        | refine then_normal ?_ | refine then_ret ?_ | refine then_exit ?_ | refine block_normal ?_ | refine block_ret ?_ | refine block_exit ?_ | refine block_out rfl ?_
        | (apply awp_reg hΓ; (focus (simp (disch := omega) only [go_sem, decide_eq_true, decide_eq_false, if_pos, if_neg, wrap_in, maxLen]; with_reducible rfl)))
        | (apply awp_regf mixedOK hΓ (by kernel_rfl); (focus (simp (disch := omega) only [go_sem, decide_eq_true, decide_eq_false, if_pos, if_neg, wrap_in, maxLen]; with_reducible rfl)); (focus (simp only [go_sem]; with_reducible rfl)))
        | (apply awp_regt mixedOK hΓ rfl; (focus kernel_rfl); (focus (simp (disch := omega) only [go_sem, decide_eq_true, decide_eq_false, if_pos, if_neg, wrap_in, maxLen]; with_reducible rfl)); (focus (simp only [go_sem]; with_reducible rfl)); (focus (simp (disch := omega) only [go_sem, decide_eq_true, decide_eq_false, if_pos, if_neg, wrap_in, maxLen]; with_reducible rfl)))
        | (apply awp_cond_t; (focus (simp (disch := omega) only [go_sem, decide_eq_true, decide_eq_false, if_pos, if_neg, wrap_in, maxLen]; done))) | (apply awp_cond_f; (focus (simp (disch := omega) only [go_sem, decide_eq_true, decide_eq_false, if_pos, if_neg, wrap_in, maxLen]; done)))
        | (apply ret_e; (focus (simp (disch := omega) only [go_sem, decide_eq_true, decide_eq_false, if_pos, if_neg, wrap_in, maxLen]; with_reducible rfl)); (focus (simp (disch := omega) only [go_sem, decide_eq_true, decide_eq_false, if_pos, if_neg, wrap_in, maxLen]; with_reducible rfl))) | (apply end_e; (focus (simp (disch := omega) only [go_sem, decide_eq_true, decide_eq_false, if_pos, if_neg, wrap_in, maxLen]; with_reducible rfl)); (focus (simp (disch := omega) only [go_sem, decide_eq_true, decide_eq_false, if_pos, if_neg, wrap_in, maxLen]; with_reducible rfl)))
        | rfl)
        refine ⟨i + 1, by omega, by omega, Weak.of (by omega) (by simp [ConvL, Conv, ints, hsucc, hc]) (by simp [TabSub, look, Obj.refsOK, refsOKs, AV.refsOK, hsucc, hc]) (by simp [refsOKs, AV.refsOK])⟩
    · repeat (first
      | refine awp_seq ?_ | refine awp_block ?_ | refine awp_ret ?_ | refine awp_skip ?_ | refine awp_exit ?_ | refine awp_label ?_
      | refine then_normal ?_ | refine then_ret ?_ | refine then_exit ?_ | refine block_normal ?_ | refine block_ret ?_ | refine block_exit ?_ | refine block_out rfl ?_
      | (apply awp_reg hΓ; (focus (simp (disch := omega) only [go_sem, decide_eq_true, decide_eq_false, if_pos, if_neg, wrap_in, maxLen]; with_reducible rfl)))
      | (apply awp_regf mixedOK hΓ (by kernel_rfl); (focus (simp (disch := omega) only [go_sem, decide_eq_true, decide_eq_false, if_pos, if_neg, wrap_in, maxLen]; with_reducible rfl)); (focus (simp only [go_sem]; with_reducible rfl)))
      | (apply awp_regt mixedOK hΓ rfl; (focus kernel_rfl); (focus (simp (disch := omega) only [go_sem, decide_eq_true, decide_eq_false, if_pos, if_neg, wrap_in, maxLen]; with_reducible rfl)); (focus (simp only [go_sem]; with_reducible rfl)); (focus (simp (disch := omega) only [go_sem, decide_eq_true, decide_eq_false, if_pos, if_neg, wrap_in, maxLen]; with_reducible rfl)))
      | (apply awp_cond_t; (focus (simp (disch := omega) only [go_sem, decide_eq_true, decide_eq_false, if_pos, if_neg, wrap_in, maxLen]; done))) | (apply awp_cond_f; (focus (simp (disch := omega) only [go_sem, decide_eq_true, decide_eq_false, if_pos, if_neg, wrap_in, maxLen]; done)))
      | (apply ret_e; (focus (simp (disch := omega) only [go_sem, decide_eq_true, decide_eq_false, if_pos, if_neg, wrap_in, maxLen]; with_reducible rfl)); (focus (simp (disch := omega) only [go_sem, decide_eq_true, decide_eq_false, if_pos, if_neg, wrap_in, maxLen]; with_reducible rfl))) | (apply end_e; (focus (simp (disch := omega) only [go_sem, decide_eq_true, decide_eq_false, if_pos, if_neg, wrap_in, maxLen]; with_reducible rfl)); (focus (simp (disch := omega) only [go_sem, decide_eq_true, decide_eq_false, if_pos, if_neg, wrap_in, maxLen]; with_reducible rfl)))
      | rfl)
      have : ¬ i < g.nodes.length := by simpa using hc
      simp only [back, hv, if_true]
      rw [show i = g.nodes.length from by omega]

end Go.Ab
