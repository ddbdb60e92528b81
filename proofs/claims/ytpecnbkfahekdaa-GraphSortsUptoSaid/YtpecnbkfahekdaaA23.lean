/-
  One text of the proof (own work): contracts of functions of the program, by the abstract machine.
-/
import Derived.Test.YtpecnbkfahekdaaA22
set_option linter.unusedVariables false
set_option linter.unusedSimpArgs false
namespace Go.Ab
open Go Go.RowKit Go.Proofs
set_option maxRecDepth 4000
set_option maxHeartbeats 4000000

theorem idx_first {g : Graph} {t : List Bool} : idx (· == 0) (tab g.nodes.length fun v => opn g t v) = if firstR g t < g.nodes.length then (firstR g t : Int) else -1 := by
  by_cases h : firstR g t < g.nodes.length
  · rw [if_pos h]
    refine idx_at (by rw [tab_len]; exact h) ?_ ?_
    · rw [tab_get]
      simpa using ready_iff.1 (firstR_at h)
    · rw [List.any_eq_false]
      intro x hx
      rw [List.mem_take_iff_getElem] at hx
      obtain ⟨i, hi, rfl⟩ := hx
      rw [tab_get]
      have hr := firstR_lt (g := g) (t := t) (v := i) (by omega)
      have : opn g t i ≠ 0 := fun h0 => by rw [ready_iff.2 h0] at hr; cases hr
      simpa using this
  · rw [if_neg h]
    refine idx_none ?_
    rw [List.any_eq_false]
    intro x hx
    obtain ⟨i, hi, rfl⟩ := List.mem_iff_getElem.1 hx
    rw [tab_get]
    rw [tab_len] at hi
    have hr := firstR_lt (g := g) (t := t) (v := i) (by omega)
    have : opn g t i ≠ 0 := fun h0 => by rw [ready_iff.2 h0] at hr; cases hr
    simpa using this
theorem opn_bd (g : Graph) (t : List Bool) (v : Nat) : -1 ≤ opn g t v ∧ opn g t v ≤ g.edges.length := by
  unfold opn
  have := List.countP_le_length (p := fun e : Edge => decide (e.to = (v : Int)) && !tk t e.fr) (l := g.edges)
  split <;> omega
noncomputable def Γ11 : FuncId → Option CSpec := fun f => if f = 20 then some (.pure true g20) else if f = 29 then some (.pure false g29) else if f = 30 then some (.pure true g30) else none
theorem Γ11_ok : ∀ f s, Γ11 f = some s → SpecOK Try.prog f s := by
  intro f s h
  unfold Γ11 at h
  split at h
  · rename_i hf; cases h; subst hf; exact f20_ok
  split at h
  · rename_i hf; cases h; subst hf; exact f29_ok
  split at h
  · rename_i hf; cases h; subst hf; exact f30_ok
  · cases h
def indeg (g : Graph) (i : Nat) (v : Nat) : Int := (g.edges.take i).countP fun e => decide (e.to = (v : Int))
theorem f11_ok : PureOK Try.prog 11 false g12 := by
  have hΓ := Γ11_ok
  refine pure_enc (n := 70) (rs := [.tmp 2, .tmp 3]) Try.func11 (by kernel_rfl) rfl (by kernel_rfl) (by kernel_rfl) ?_
  rintro g hs
  have e20 := g20_eq hs
  refine ⟨fun h => (by cases h), fun c hz0 => ?_⟩
  simp only [start, go_sem, emptyH, List.replicate_succ, List.replicate_zero]
  by_cases hc0 : chk g = 0
  · have hfit := chk_fit hc0
    have hn := hfit.nodes
    have he := hfit.edges
    have h3 : (chk g != 0) = false := by simpa using hc0
    repeat (first
      | refine awp_seq ?_ | refine awp_block ?_ | refine awp_ret ?_ | refine awp_skip ?_ | refine awp_exit ?_ | refine awp_label ?_
      | refine then_normal ?_ | refine then_ret ?_ | refine then_exit ?_ | refine block_normal ?_ | refine block_ret ?_ | refine block_exit ?_ | refine block_out rfl ?_
      | (apply awp_reg hΓ; (focus (simp (disch := omega) only [go_sem, decide_eq_true, decide_eq_false, if_pos, if_neg, wrap_in, maxLen, Γ11, e20, h3]; with_reducible rfl)))
      | (apply awp_regf mixedOK hΓ (by kernel_rfl); (focus (simp (disch := omega) only [go_sem, decide_eq_true, decide_eq_false, if_pos, if_neg, wrap_in, maxLen, Γ11, e20, h3]; with_reducible rfl)); (focus (simp only [go_sem]; with_reducible rfl)))
      | (apply awp_regt mixedOK hΓ rfl; (focus kernel_rfl); (focus (simp (disch := omega) only [go_sem, decide_eq_true, decide_eq_false, if_pos, if_neg, wrap_in, maxLen, Γ11, e20, h3]; with_reducible rfl)); (focus (simp only [go_sem]; with_reducible rfl)); (focus (simp (disch := omega) only [go_sem, decide_eq_true, decide_eq_false, if_pos, if_neg, wrap_in, maxLen, Γ11, e20, h3]; with_reducible rfl)))
      | (apply awp_cond_t; (focus (simp (disch := omega) only [go_sem, decide_eq_true, decide_eq_false, if_pos, if_neg, wrap_in, maxLen, Γ11, e20, h3]; done))) | (apply awp_cond_f; (focus (simp (disch := omega) only [go_sem, decide_eq_true, decide_eq_false, if_pos, if_neg, wrap_in, maxLen, Γ11, e20, h3]; done)))
      | (apply ret_e; (focus (simp (disch := omega) only [go_sem, decide_eq_true, decide_eq_false, if_pos, if_neg, wrap_in, maxLen, Γ11, e20, h3]; with_reducible rfl)); (focus (simp (disch := omega) only [go_sem, decide_eq_true, decide_eq_false, if_pos, if_neg, wrap_in, maxLen, Γ11, e20, h3]; with_reducible rfl))) | (apply end_e; (focus (simp (disch := omega) only [go_sem, decide_eq_true, decide_eq_false, if_pos, if_neg, wrap_in, maxLen, Γ11, e20, h3]; with_reducible rfl)); (focus (simp (disch := omega) only [go_sem, decide_eq_true, decide_eq_false, if_pos, if_neg, wrap_in, maxLen, Γ11, e20, h3]; with_reducible rfl)))
      | rfl)
    have hz1 : (tab g.nodes.length (indeg g 0)).map i64 = List.replicate g.nodes.length (.int .i64 0) := by
      refine List.ext_getElem (by simp [tab]) fun i h1 h2 => ?_
      simp [tab, indeg]
    refine awp_loop_at (X := Nat) (fun i => (.junk :: .ptr 0 0 :: .junk :: .junk :: .row 9 g.nodes.length :: .junk :: .junk :: .junk :: .junk :: .junk :: .junk :: .junk :: .junk :: .junk :: .junk :: .junk :: .junk :: .junk :: .junk :: .junk :: .data (.list (g.edges.map eD)) :: .data (i64 g.edges.length) :: .data (i64 i) :: .junk :: .junk :: .junk :: .junk :: .junk :: .junk :: .junk :: .junk :: .junk :: .junk :: .junk :: .junk :: .junk :: .junk :: .junk :: .junk :: .junk :: .junk :: .junk :: .junk :: .junk :: .junk :: .junk :: .junk :: .junk :: .junk :: .junk :: .junk :: .junk :: .junk :: .junk :: .junk :: .junk :: .junk :: .junk :: .junk :: .junk :: .junk :: .junk :: .junk :: .junk :: .junk :: .junk :: .junk :: .junk :: .junk :: .junk :: []))
      (fun i => [(0, .box [.data (.list (g.nodes.map .str)), .data (.list (g.edges.map eD))]), (9, .row 3 1 ((tab g.nodes.length (indeg g i)).map i64))]) 10
      (fun i => i ≤ g.edges.length) (fun i => g.edges.length - i) 0 (Nat.zero_le _) (Weak.of (by omega) (by simp [ConvL, Conv, ints, hz1]) (by simp (disch := omega) only [TabSub, look, if_pos, if_neg, Obj.refsOK, refsOKs, AV.refsOK, decide_eq_true_eq, Bool.and_true, Bool.and_self, hz1]; (repeat' apply And.intro) <;> first | trivial | omega | rfl | (simp; done)) (by simp (disch := omega) only [refsOKs, AV.refsOK, Bool.and_true, Bool.and_self, decide_eq_true_eq, Bool.true_and, Bool.and_eq_true]; try omega)) ?_
    intro i hi
    have htl := tab_len g.nodes.length (indeg g i)
    repeat (first
      | refine awp_seq ?_ | refine awp_block ?_ | refine awp_ret ?_ | refine awp_skip ?_ | refine awp_exit ?_ | refine awp_label ?_
      | refine then_normal ?_ | refine then_ret ?_ | refine then_exit ?_ | refine block_normal ?_ | refine block_ret ?_ | refine block_exit ?_ | refine block_out rfl ?_
      | (apply awp_reg hΓ; (focus (simp (disch := omega) only [go_sem, decide_eq_true, decide_eq_false, if_pos, if_neg, wrap_in, maxLen]; with_reducible rfl)))
      | (apply awp_regf mixedOK hΓ (by kernel_rfl); (focus (simp (disch := omega) only [go_sem, decide_eq_true, decide_eq_false, if_pos, if_neg, wrap_in, maxLen]; with_reducible rfl)); (focus (simp only [go_sem]; with_reducible rfl)))
      | (apply awp_regt mixedOK hΓ rfl; (focus kernel_rfl); (focus (simp (disch := omega) only [go_sem, decide_eq_true, decide_eq_false, if_pos, if_neg, wrap_in, maxLen]; with_reducible rfl)); (focus (simp only [go_sem]; with_reducible rfl)); (focus (simp (disch := omega) only [go_sem, decide_eq_true, decide_eq_false, if_pos, if_neg, wrap_in, maxLen]; with_reducible rfl)))
      | (apply awp_cond_t; (focus (simp (disch := omega) only [go_sem, decide_eq_true, decide_eq_false, if_pos, if_neg, wrap_in, maxLen]; done))) | (apply awp_cond_f; (focus (simp (disch := omega) only [go_sem, decide_eq_true, decide_eq_false, if_pos, if_neg, wrap_in, maxLen]; done)))
      | (apply ret_e; (focus (simp (disch := omega) only [go_sem, decide_eq_true, decide_eq_false, if_pos, if_neg, wrap_in, maxLen]; with_reducible rfl)); (focus (simp (disch := omega) only [go_sem, decide_eq_true, decide_eq_false, if_pos, if_neg, wrap_in, maxLen]; with_reducible rfl))) | (apply end_e; (focus (simp (disch := omega) only [go_sem, decide_eq_true, decide_eq_false, if_pos, if_neg, wrap_in, maxLen]; with_reducible rfl)); (focus (simp (disch := omega) only [go_sem, decide_eq_true, decide_eq_false, if_pos, if_neg, wrap_in, maxLen]; with_reducible rfl)))
      | rfl)
    refine awp_cond (by simp (disch := omega) only [go_sem]; rfl) (fun hc => ?_) (fun hc => ?_)
    · have hi' : i < g.edges.length := by simpa using hc
      obtain ⟨r1, r2, r3, r4⟩ := hfit.inr _ (List.getElem_mem hi')
      have hnx : ∀ v : Nat, indeg g (i + 1) v = if (v : Int) = g.edges[i].to then indeg g i v + 1 else indeg g i v := fun v => by
        unfold indeg
        rw [List.take_add_one, List.countP_append, List.getElem?_eq_getElem hi']
        by_cases h : (v : Int) = g.edges[i].to
        · simp [h]
        · simp [h, Ne.symm h]
      have hib : ∀ v, indeg g i v ≤ 1024 ∧ 0 ≤ indeg g i v := fun v => by
        unfold indeg
        have := List.countP_le_length (p := fun e : Edge => decide (e.to = (v : Int))) (l := g.edges.take i)
        have := List.length_take_le i g.edges
        omega
      generalize hx : g.edges[i] = x at r1 r2 r3 r4 hnx
      have hget := tab_get (n := g.nodes.length) (f := indeg g i) (v := x.to.toNat) (by rw [tab_len]; omega)
      have hbx := hib x.to.toNat
      have hset : ((tab g.nodes.length (indeg g i)).map i64).set x.to.toNat (.int .i64 (indeg g i x.to.toNat + 1)) = (tab g.nodes.length (indeg g (i + 1))).map i64 := by
        have h1 : (tab g.nodes.length (indeg g i)).set x.to.toNat (indeg g i x.to.toNat + 1) = tab g.nodes.length (indeg g (i + 1)) := by
          rw [tab_set]
          refine tab_congr fun v hv => ?_
          rw [hnx v]
          by_cases h : v = x.to.toNat
          · subst h
            rw [if_pos rfl, if_pos (by omega)]
          · rw [if_neg h, if_neg (by omega)]
        rw [← h1, List.map_set]
      repeat (first
        | refine awp_seq ?_ | refine awp_block ?_ | refine awp_ret ?_ | refine awp_skip ?_ | refine awp_exit ?_ | refine awp_label ?_
        | refine then_normal ?_ | refine then_ret ?_ | refine then_exit ?_ | refine block_normal ?_ | refine block_ret ?_ | refine block_exit ?_ | refine block_out rfl ?_
        | (apply awp_reg hΓ; (focus (simp (disch := omega) only [go_sem, decide_eq_true, decide_eq_false, if_pos, if_neg, wrap_in, maxLen, hx, htl, hget, hset]; with_reducible rfl)))
        | (apply awp_regf mixedOK hΓ (by kernel_rfl); (focus (simp (disch := omega) only [go_sem, decide_eq_true, decide_eq_false, if_pos, if_neg, wrap_in, maxLen, hx, htl, hget, hset]; with_reducible rfl)); (focus (simp only [go_sem]; with_reducible rfl)))
        | (apply awp_regt mixedOK hΓ rfl; (focus kernel_rfl); (focus (simp (disch := omega) only [go_sem, decide_eq_true, decide_eq_false, if_pos, if_neg, wrap_in, maxLen, hx, htl, hget, hset]; with_reducible rfl)); (focus (simp only [go_sem]; with_reducible rfl)); (focus (simp (disch := omega) only [go_sem, decide_eq_true, decide_eq_false, if_pos, if_neg, wrap_in, maxLen, hx, htl, hget, hset]; with_reducible rfl)))
        | (apply awp_cond_t; (focus (simp (disch := omega) only [go_sem, decide_eq_true, decide_eq_false, if_pos, if_neg, wrap_in, maxLen, hx, htl, hget, hset]; done))) | (apply awp_cond_f; (focus (simp (disch := omega) only [go_sem, decide_eq_true, decide_eq_false, if_pos, if_neg, wrap_in, maxLen, hx, htl, hget, hset]; done)))
        | (apply ret_e; (focus (simp (disch := omega) only [go_sem, decide_eq_true, decide_eq_false, if_pos, if_neg, wrap_in, maxLen, hx, htl, hget, hset]; with_reducible rfl)); (focus (simp (disch := omega) only [go_sem, decide_eq_true, decide_eq_false, if_pos, if_neg, wrap_in, maxLen, hx, htl, hget, hset]; with_reducible rfl))) | (apply end_e; (focus (simp (disch := omega) only [go_sem, decide_eq_true, decide_eq_false, if_pos, if_neg, wrap_in, maxLen, hx, htl, hget, hset]; with_reducible rfl)); (focus (simp (disch := omega) only [go_sem, decide_eq_true, decide_eq_false, if_pos, if_neg, wrap_in, maxLen, hx, htl, hget, hset]; with_reducible rfl)))
        | rfl)
      exact ⟨i + 1, by omega, by omega, Weak.of (by omega) (by simp [ConvL, Conv, ints]) (by simp (disch := omega) only [TabSub, look, if_pos, if_neg, Obj.refsOK, refsOKs, AV.refsOK, decide_eq_true_eq, Bool.and_true, Bool.and_self]; (repeat' apply And.intro) <;> first | trivial | omega | rfl | (simp; done)) (by simp (disch := omega) only [refsOKs, AV.refsOK, Bool.and_true, Bool.and_self, decide_eq_true_eq, Bool.true_and, Bool.and_eq_true]; try omega)⟩
    have hie : i = g.edges.length := by
      have : ¬ i < g.edges.length := by simpa using hc
      omega
    have hop : tab g.nodes.length (indeg g i) = tab g.nodes.length fun v => opn g (List.replicate g.nodes.length false) v := by
      refine tab_congr fun v hv => ?_
      have h0 : ∀ u : Int, tk (List.replicate g.nodes.length false) u = false := fun u => by
        unfold tk
        rw [List.getD_eq_getElem?_getD, List.getElem?_replicate]
        split <;> rfl
      rw [hie]
      unfold indeg opn
      rw [h0, List.take_length]
      simp [h0]
    rw [hop]
    clear hc hop htl hi
    have e29 := g29_eq (back := false) hfit
    repeat (first
      | refine awp_seq ?_ | refine awp_block ?_ | refine awp_ret ?_ | refine awp_skip ?_ | refine awp_exit ?_ | refine awp_label ?_
      | refine then_normal ?_ | refine then_ret ?_ | refine then_exit ?_ | refine block_normal ?_ | refine block_ret ?_ | refine block_exit ?_ | refine block_out rfl ?_
      | (apply awp_reg hΓ; (focus (simp (disch := omega) only [go_sem, decide_eq_true, decide_eq_false, if_pos, if_neg, wrap_in, maxLen, Γ11, e29]; with_reducible rfl)))
      | (apply awp_regf mixedOK hΓ (by kernel_rfl); (focus (simp (disch := omega) only [go_sem, decide_eq_true, decide_eq_false, if_pos, if_neg, wrap_in, maxLen, Γ11, e29]; with_reducible rfl)); (focus (simp only [go_sem]; with_reducible rfl)))
      | (apply awp_regt mixedOK hΓ rfl; (focus kernel_rfl); (focus (simp (disch := omega) only [go_sem, decide_eq_true, decide_eq_false, if_pos, if_neg, wrap_in, maxLen, Γ11, e29]; with_reducible rfl)); (focus (simp only [go_sem]; with_reducible rfl)); (focus (simp (disch := omega) only [go_sem, decide_eq_true, decide_eq_false, if_pos, if_neg, wrap_in, maxLen, Γ11, e29]; with_reducible rfl)))
      | (apply awp_cond_t; (focus (simp (disch := omega) only [go_sem, decide_eq_true, decide_eq_false, if_pos, if_neg, wrap_in, maxLen, Γ11, e29]; done))) | (apply awp_cond_f; (focus (simp (disch := omega) only [go_sem, decide_eq_true, decide_eq_false, if_pos, if_neg, wrap_in, maxLen, Γ11, e29]; done)))
      | (apply ret_e; (focus (simp (disch := omega) only [go_sem, decide_eq_true, decide_eq_false, if_pos, if_neg, wrap_in, maxLen, Γ11, e29]; with_reducible rfl)); (focus (simp (disch := omega) only [go_sem, decide_eq_true, decide_eq_false, if_pos, if_neg, wrap_in, maxLen, Γ11, e29]; with_reducible rfl))) | (apply end_e; (focus (simp (disch := omega) only [go_sem, decide_eq_true, decide_eq_false, if_pos, if_neg, wrap_in, maxLen, Γ11, e29]; with_reducible rfl)); (focus (simp (disch := omega) only [go_sem, decide_eq_true, decide_eq_false, if_pos, if_neg, wrap_in, maxLen, Γ11, e29]; with_reducible rfl)))
      | rfl)
    refine awp_loop_at (X := Nat × List Bool × List Int) (fun x => (.junk :: .junk :: .junk :: .junk :: .row 9 g.nodes.length :: .junk :: .junk :: .data (.list ((nbs g false).map ints)) :: .row 19 x.2.2.length :: .junk :: .junk :: .junk :: .junk :: .junk :: .junk :: .junk :: .junk :: .junk :: .junk :: .junk :: .junk :: .junk :: .junk :: .junk :: .junk :: .junk :: .junk :: .junk :: .junk :: .junk :: .junk :: .junk :: .junk :: .junk :: .junk :: .junk :: .junk :: .junk :: .data (i64 g.nodes.length) :: .data (i64 x.2.2.length) :: .junk :: .junk :: .junk :: .junk :: .junk :: .junk :: .junk :: .junk :: .junk :: .junk :: .junk :: .junk :: .junk :: .junk :: .junk :: .junk :: .junk :: .junk :: .junk :: .junk :: .junk :: .junk :: .junk :: .junk :: .junk :: .junk :: .junk :: .junk :: .junk :: .junk :: []))
      (fun x => [(9, .row 3 1 ((tab g.nodes.length fun v => opn g x.2.1 v).map i64)), (19, .row 3 1 (x.2.2.map i64))]) 20
      (fun x => x.2.1.length = g.nodes.length ∧ x.2.2.length + x.1 = g.nodes.length ∧ ord g x.1 x.2.1 x.2.2 = ord g g.nodes.length (List.replicate g.nodes.length false) [] ∧ Shut g x.2.1) (fun x => x.1)
      (g.nodes.length, List.replicate g.nodes.length false, []) ⟨by simp, by simp, rfl, fun e he h => by
        unfold tk at h
        rw [List.getD_eq_getElem?_getD, List.getElem?_replicate] at h
        split at h <;> cases h⟩ ((Weak.nilrow (i := 8) 3 (sz := 1) (by omega) rfl).trans (Weak.of (by omega) (by simp [ConvL, Conv, ints]) (by simp (disch := omega) only [TabSub, look, if_pos, if_neg, Obj.refsOK, refsOKs, AV.refsOK, decide_eq_true_eq, Bool.and_true, Bool.and_self]; (repeat' apply And.intro) <;> first | trivial | omega | rfl | (simp; done)) (by simp (disch := omega) only [refsOKs, AV.refsOK, Bool.and_true, Bool.and_self, decide_eq_true_eq, Bool.true_and, Bool.and_eq_true]; try omega))) ?_
    rintro ⟨k, t, acc⟩ ⟨ht, hk, hord, hsh⟩
    dsimp only at ht hk hord hsh
    have htl := tab_len g.nodes.length fun v => opn g t v
    repeat (first
      | refine awp_seq ?_ | refine awp_block ?_ | refine awp_ret ?_ | refine awp_skip ?_ | refine awp_exit ?_ | refine awp_label ?_
      | refine then_normal ?_ | refine then_ret ?_ | refine then_exit ?_ | refine block_normal ?_ | refine block_ret ?_ | refine block_exit ?_ | refine block_out rfl ?_
      | (apply awp_reg hΓ; (focus (simp (disch := omega) only [go_sem, decide_eq_true, decide_eq_false, if_pos, if_neg, wrap_in, maxLen]; with_reducible rfl)))
      | (apply awp_regf mixedOK hΓ (by kernel_rfl); (focus (simp (disch := omega) only [go_sem, decide_eq_true, decide_eq_false, if_pos, if_neg, wrap_in, maxLen]; with_reducible rfl)); (focus (simp only [go_sem]; with_reducible rfl)))
      | (apply awp_regt mixedOK hΓ rfl; (focus kernel_rfl); (focus (simp (disch := omega) only [go_sem, decide_eq_true, decide_eq_false, if_pos, if_neg, wrap_in, maxLen]; with_reducible rfl)); (focus (simp only [go_sem]; with_reducible rfl)); (focus (simp (disch := omega) only [go_sem, decide_eq_true, decide_eq_false, if_pos, if_neg, wrap_in, maxLen]; with_reducible rfl)))
      | (apply awp_cond_t; (focus (simp (disch := omega) only [go_sem, decide_eq_true, decide_eq_false, if_pos, if_neg, wrap_in, maxLen]; done))) | (apply awp_cond_f; (focus (simp (disch := omega) only [go_sem, decide_eq_true, decide_eq_false, if_pos, if_neg, wrap_in, maxLen]; done)))
      | (apply ret_e; (focus (simp (disch := omega) only [go_sem, decide_eq_true, decide_eq_false, if_pos, if_neg, wrap_in, maxLen]; with_reducible rfl)); (focus (simp (disch := omega) only [go_sem, decide_eq_true, decide_eq_false, if_pos, if_neg, wrap_in, maxLen]; with_reducible rfl))) | (apply end_e; (focus (simp (disch := omega) only [go_sem, decide_eq_true, decide_eq_false, if_pos, if_neg, wrap_in, maxLen]; with_reducible rfl)); (focus (simp (disch := omega) only [go_sem, decide_eq_true, decide_eq_false, if_pos, if_neg, wrap_in, maxLen]; with_reducible rfl)))
      | rfl)
    cases k with
    | zero =>
      repeat (first
        | refine awp_seq ?_ | refine awp_block ?_ | refine awp_ret ?_ | refine awp_skip ?_ | refine awp_exit ?_ | refine awp_label ?_
        | refine then_normal ?_ | refine then_ret ?_ | refine then_exit ?_ | refine block_normal ?_ | refine block_ret ?_ | refine block_exit ?_ | refine block_out rfl ?_
        | (apply awp_reg hΓ; (focus (simp (disch := omega) only [go_sem, decide_eq_true, decide_eq_false, if_pos, if_neg, wrap_in, maxLen]; with_reducible rfl)))
        | (apply awp_regf mixedOK hΓ (by kernel_rfl); (focus (simp (disch := omega) only [go_sem, decide_eq_true, decide_eq_false, if_pos, if_neg, wrap_in, maxLen]; with_reducible rfl)); (focus (simp only [go_sem]; with_reducible rfl)))
        | (apply awp_regt mixedOK hΓ rfl; (focus kernel_rfl); (focus (simp (disch := omega) only [go_sem, decide_eq_true, decide_eq_false, if_pos, if_neg, wrap_in, maxLen]; with_reducible rfl)); (focus (simp only [go_sem]; with_reducible rfl)); (focus (simp (disch := omega) only [go_sem, decide_eq_true, decide_eq_false, if_pos, if_neg, wrap_in, maxLen]; with_reducible rfl)))
        | (apply awp_cond_t; (focus (simp (disch := omega) only [go_sem, decide_eq_true, decide_eq_false, if_pos, if_neg, wrap_in, maxLen]; done))) | (apply awp_cond_f; (focus (simp (disch := omega) only [go_sem, decide_eq_true, decide_eq_false, if_pos, if_neg, wrap_in, maxLen]; done)))
        | (apply ret_e; (focus (simp (disch := omega) only [go_sem, decide_eq_true, decide_eq_false, if_pos, if_neg, wrap_in, maxLen]; with_reducible rfl)); (focus (simp (disch := omega) only [go_sem, decide_eq_true, decide_eq_false, if_pos, if_neg, wrap_in, maxLen]; with_reducible rfl))) | (apply end_e; (focus (simp (disch := omega) only [go_sem, decide_eq_true, decide_eq_false, if_pos, if_neg, wrap_in, maxLen]; with_reducible rfl)); (focus (simp (disch := omega) only [go_sem, decide_eq_true, decide_eq_false, if_pos, if_neg, wrap_in, maxLen]; with_reducible rfl)))
        | rfl)
      simp only [ord] at hord
      simp only [orderR, hc0, if_true, ← hord]
    | succ k =>
      have e30 := g30_eq (l := tab g.nodes.length fun v => opn g t v) (n := 0) (by rw [htl]; omega)
      rw [idx_first] at e30
      have hfl := firstR_le g t
      by_cases hin : firstR g t < g.nodes.length
      · rw [if_pos hin] at e30
        have hr := firstR_at hin
        obtain ⟨hsh2, hop2⟩ := opn_take hfit.inr ht hsh hin hr
        simp only [ord, if_pos hin] at hord
        have hset : ((tab g.nodes.length fun v => opn g t v).map i64).set (firstR g t) (.int .i64 (-1)) = (tab g.nodes.length fun v => if v = firstR g t then -1 else opn g t v).map i64 := by
          rw [← tab_set, List.map_set]
        have hrow : ((nbs g false).map ints)[firstR g t]? = some (ints ((nbs g false).getD (firstR g t) [])) := by
          rw [List.getElem?_map, List.getElem?_eq_getElem (by rw [nbs_len]; exact hin), List.getD_eq_getElem?_getD, List.getElem?_eq_getElem (by rw [nbs_len]; exact hin)]
          rfl
        have hrmem : (nbs g false).getD (firstR g t) [] ∈ nbs g false := by
          rw [List.getD_eq_getElem?_getD, List.getElem?_eq_getElem (by rw [nbs_len]; exact hin)]
          exact List.getElem_mem _
        have hrl := (nbs_ok hfit false).rows _ hrmem
        have hrin := (nbs_ok hfit false).inr _ hrmem
        rw [nbs_len] at hrin
        have hnl := nbs_len g false
        generalize (nbs g false).getD (firstR g t) [] = row at hrow hrl hrin hop2
        generalize firstR g t = v at *
        repeat (first
          | refine awp_seq ?_ | refine awp_block ?_ | refine awp_ret ?_ | refine awp_skip ?_ | refine awp_exit ?_ | refine awp_label ?_
          | refine then_normal ?_ | refine then_ret ?_ | refine then_exit ?_ | refine block_normal ?_ | refine block_ret ?_ | refine block_exit ?_ | refine block_out rfl ?_
          | (apply awp_reg hΓ; (focus (simp (disch := omega) only [go_sem, decide_eq_true, decide_eq_false, if_pos, if_neg, wrap_in, maxLen, Γ11, e30, hset, hrow, hnl, ints]; with_reducible rfl)))
          | (apply awp_regf mixedOK hΓ (by kernel_rfl); (focus (simp (disch := omega) only [go_sem, decide_eq_true, decide_eq_false, if_pos, if_neg, wrap_in, maxLen, Γ11, e30, hset, hrow, hnl, ints]; with_reducible rfl)); (focus (simp only [go_sem]; with_reducible rfl)))
          | (apply awp_regt mixedOK hΓ rfl; (focus kernel_rfl); (focus (simp (disch := omega) only [go_sem, decide_eq_true, decide_eq_false, if_pos, if_neg, wrap_in, maxLen, Γ11, e30, hset, hrow, hnl, ints]; with_reducible rfl)); (focus (simp only [go_sem]; with_reducible rfl)); (focus (simp (disch := omega) only [go_sem, decide_eq_true, decide_eq_false, if_pos, if_neg, wrap_in, maxLen, Γ11, e30, hset, hrow, hnl, ints]; with_reducible rfl)))
          | (apply awp_cond_t; (focus (simp (disch := omega) only [go_sem, decide_eq_true, decide_eq_false, if_pos, if_neg, wrap_in, maxLen, Γ11, e30, hset, hrow, hnl, ints]; done))) | (apply awp_cond_f; (focus (simp (disch := omega) only [go_sem, decide_eq_true, decide_eq_false, if_pos, if_neg, wrap_in, maxLen, Γ11, e30, hset, hrow, hnl, ints]; done)))
          | (apply ret_e; (focus (simp (disch := omega) only [go_sem, decide_eq_true, decide_eq_false, if_pos, if_neg, wrap_in, maxLen, Γ11, e30, hset, hrow, hnl, ints]; with_reducible rfl)); (focus (simp (disch := omega) only [go_sem, decide_eq_true, decide_eq_false, if_pos, if_neg, wrap_in, maxLen, Γ11, e30, hset, hrow, hnl, ints]; with_reducible rfl))) | (apply end_e; (focus (simp (disch := omega) only [go_sem, decide_eq_true, decide_eq_false, if_pos, if_neg, wrap_in, maxLen, Γ11, e30, hset, hrow, hnl, ints]; with_reducible rfl)); (focus (simp (disch := omega) only [go_sem, decide_eq_true, decide_eq_false, if_pos, if_neg, wrap_in, maxLen, Γ11, e30, hset, hrow, hnl, ints]; with_reducible rfl)))
          | rfl)
        have hz2 : (tab g.nodes.length fun u => (if u = v then -1 else opn g t u) - ((row.take 0).count (u : Int) : Nat)) = tab g.nodes.length fun u => if u = v then -1 else opn g t u := tab_congr fun u _ => by simp
        refine awp_loop_at (X := Nat) (fun i => (.junk :: .junk :: .junk :: .junk :: .row 9 g.nodes.length :: .junk :: .junk :: .data (.list ((nbs g false).map ints)) :: .row 19 (acc.length + 1) :: .junk :: .junk :: .junk :: .junk :: .junk :: .junk :: .junk :: .junk :: .junk :: .junk :: .junk :: .junk :: .junk :: .junk :: .junk :: .junk :: .junk :: .junk :: .junk :: .junk :: .junk :: .junk :: .junk :: .junk :: .junk :: .junk :: .junk :: .junk :: .junk :: .data (i64 g.nodes.length) :: .data (i64 acc.length) :: .junk :: .junk :: .junk :: .junk :: .junk :: .junk :: .junk :: .junk :: .junk :: .junk :: .junk :: .junk :: .junk :: .junk :: .junk :: .data (ints row) :: .data (i64 row.length) :: .data (i64 i) :: .junk :: .junk :: .junk :: .junk :: .junk :: .junk :: .junk :: .junk :: .junk :: .junk :: .junk :: .junk :: []))
          (fun i => [(9, .row 3 1 ((tab g.nodes.length fun u => (if u = v then -1 else opn g t u) - ((row.take i).count (u : Int) : Nat)).map i64)), (19, .row 3 1 ((acc ++ [(v : Int)]).map i64))]) 20
          (fun i => i ≤ row.length) (fun i => row.length - i) 0 (Nat.zero_le _) (Weak.of (by omega) (by simp [ConvL, Conv, ints, hz2]) (by simp (disch := omega) only [TabSub, look, if_pos, if_neg, Obj.refsOK, refsOKs, AV.refsOK, decide_eq_true_eq, Bool.and_true, Bool.and_self, hz2]; (repeat' apply And.intro) <;> first | trivial | omega | rfl | (simp; done)) (by simp (disch := omega) only [refsOKs, AV.refsOK, Bool.and_true, Bool.and_self, decide_eq_true_eq, Bool.true_and, Bool.and_eq_true]; try omega)) ?_
        intro i hi
        have htl2 := tab_len g.nodes.length fun u => (if u = v then -1 else opn g t u) - ((row.take i).count (u : Int) : Nat)
        repeat (first
          | refine awp_seq ?_ | refine awp_block ?_ | refine awp_ret ?_ | refine awp_skip ?_ | refine awp_exit ?_ | refine awp_label ?_
          | refine then_normal ?_ | refine then_ret ?_ | refine then_exit ?_ | refine block_normal ?_ | refine block_ret ?_ | refine block_exit ?_ | refine block_out rfl ?_
          | (apply awp_reg hΓ; (focus (simp (disch := omega) only [go_sem, decide_eq_true, decide_eq_false, if_pos, if_neg, wrap_in, maxLen, ints]; with_reducible rfl)))
          | (apply awp_regf mixedOK hΓ (by kernel_rfl); (focus (simp (disch := omega) only [go_sem, decide_eq_true, decide_eq_false, if_pos, if_neg, wrap_in, maxLen, ints]; with_reducible rfl)); (focus (simp only [go_sem]; with_reducible rfl)))
          | (apply awp_regt mixedOK hΓ rfl; (focus kernel_rfl); (focus (simp (disch := omega) only [go_sem, decide_eq_true, decide_eq_false, if_pos, if_neg, wrap_in, maxLen, ints]; with_reducible rfl)); (focus (simp only [go_sem]; with_reducible rfl)); (focus (simp (disch := omega) only [go_sem, decide_eq_true, decide_eq_false, if_pos, if_neg, wrap_in, maxLen, ints]; with_reducible rfl)))
          | (apply awp_cond_t; (focus (simp (disch := omega) only [go_sem, decide_eq_true, decide_eq_false, if_pos, if_neg, wrap_in, maxLen, ints]; done))) | (apply awp_cond_f; (focus (simp (disch := omega) only [go_sem, decide_eq_true, decide_eq_false, if_pos, if_neg, wrap_in, maxLen, ints]; done)))
          | (apply ret_e; (focus (simp (disch := omega) only [go_sem, decide_eq_true, decide_eq_false, if_pos, if_neg, wrap_in, maxLen, ints]; with_reducible rfl)); (focus (simp (disch := omega) only [go_sem, decide_eq_true, decide_eq_false, if_pos, if_neg, wrap_in, maxLen, ints]; with_reducible rfl))) | (apply end_e; (focus (simp (disch := omega) only [go_sem, decide_eq_true, decide_eq_false, if_pos, if_neg, wrap_in, maxLen, ints]; with_reducible rfl)); (focus (simp (disch := omega) only [go_sem, decide_eq_true, decide_eq_false, if_pos, if_neg, wrap_in, maxLen, ints]; with_reducible rfl)))
          | rfl)
        refine awp_cond (by simp (disch := omega) only [go_sem]; rfl) (fun hc => ?_) (fun hc => ?_)
        · have hi' : i < row.length := by simpa using hc
          obtain ⟨b0, b1⟩ := hrin _ (List.getElem_mem hi')
          have hcnt : ∀ u : Nat, (row.take (i + 1)).count (u : Int) = (row.take i).count (u : Int) + if (u : Int) = row[i] then 1 else 0 := fun u => by
            rw [List.take_add_one, List.count_append, List.getElem?_eq_getElem hi']
            by_cases h : (u : Int) = row[i]
            · simp [h]
            · simp [h, Ne.symm h]
          generalize hb : row[i] = b at b0 b1 hcnt
          have hget := tab_get (n := g.nodes.length) (f := fun u => (if u = v then -1 else opn g t u) - ((row.take i).count (u : Int) : Nat)) (v := b.toNat) (by rw [tab_len]; omega)
          have hset2 : ∀ x : Int, x = ((if b.toNat = v then -1 else opn g t b.toNat) - ((row.take i).count ((b.toNat : Nat) : Int) : Nat)) - 1 → ((tab g.nodes.length fun u => (if u = v then -1 else opn g t u) - ((row.take i).count (u : Int) : Nat)).map i64).set b.toNat (.int .i64 x) = (tab g.nodes.length fun u => (if u = v then -1 else opn g t u) - ((row.take (i + 1)).count (u : Int) : Nat)).map i64 := fun x hx => by
            have h1 : (tab g.nodes.length fun u => (if u = v then -1 else opn g t u) - ((row.take i).count (u : Int) : Nat)).set b.toNat x = tab g.nodes.length fun u => (if u = v then -1 else opn g t u) - ((row.take (i + 1)).count (u : Int) : Nat) := by
              rw [tab_set]
              refine tab_congr fun u hu => ?_
              rw [hcnt u]
              by_cases h : u = b.toNat
              · subst h
                have e1 : (if ((b.toNat : Nat) : Int) = b then 1 else 0) = 1 := if_pos (by omega)
                rw [if_pos rfl, hx, e1]
                omega
              · have e0 : (if (u : Int) = b then 1 else 0) = 0 := if_neg (by omega)
                rw [if_neg h, e0, Nat.add_zero]
            rw [← h1, List.map_set]
          have hcl : (row.take i).count ((b.toNat : Nat) : Int) ≤ 1024 := by
            have := List.count_le_length (a := ((b.toNat : Nat) : Int)) (l := row.take i)
            have := List.length_take_le i row
            omega
          have hob := opn_bd g t b.toNat
          have hvb : -2000 ≤ ((if b.toNat = v then -1 else opn g t b.toNat) - ((row.take i).count ((b.toNat : Nat) : Int) : Nat)) ∧ ((if b.toNat = v then -1 else opn g t b.toNat) - ((row.take i).count ((b.toNat : Nat) : Int) : Nat)) ≤ 2000 := by
            split <;> omega
          generalize ((if b.toNat = v then -1 else opn g t b.toNat) - ((row.take i).count ((b.toNat : Nat) : Int) : Nat)) = y at hget hset2 hvb
          have hset3 := hset2 _ rfl
          repeat (first
            | refine awp_seq ?_ | refine awp_block ?_ | refine awp_ret ?_ | refine awp_skip ?_ | refine awp_exit ?_ | refine awp_label ?_
            | refine then_normal ?_ | refine then_ret ?_ | refine then_exit ?_ | refine block_normal ?_ | refine block_ret ?_ | refine block_exit ?_ | refine block_out rfl ?_
            | (apply awp_reg hΓ; (focus (simp (disch := omega) only [go_sem, decide_eq_true, decide_eq_false, if_pos, if_neg, wrap_in, maxLen, hb, htl2, hget, hset3]; with_reducible rfl)))
            | (apply awp_regf mixedOK hΓ (by kernel_rfl); (focus (simp (disch := omega) only [go_sem, decide_eq_true, decide_eq_false, if_pos, if_neg, wrap_in, maxLen, hb, htl2, hget, hset3]; with_reducible rfl)); (focus (simp only [go_sem]; with_reducible rfl)))
            | (apply awp_regt mixedOK hΓ rfl; (focus kernel_rfl); (focus (simp (disch := omega) only [go_sem, decide_eq_true, decide_eq_false, if_pos, if_neg, wrap_in, maxLen, hb, htl2, hget, hset3]; with_reducible rfl)); (focus (simp only [go_sem]; with_reducible rfl)); (focus (simp (disch := omega) only [go_sem, decide_eq_true, decide_eq_false, if_pos, if_neg, wrap_in, maxLen, hb, htl2, hget, hset3]; with_reducible rfl)))
            | (apply awp_cond_t; (focus (simp (disch := omega) only [go_sem, decide_eq_true, decide_eq_false, if_pos, if_neg, wrap_in, maxLen, hb, htl2, hget, hset3]; done))) | (apply awp_cond_f; (focus (simp (disch := omega) only [go_sem, decide_eq_true, decide_eq_false, if_pos, if_neg, wrap_in, maxLen, hb, htl2, hget, hset3]; done)))
            | (apply ret_e; (focus (simp (disch := omega) only [go_sem, decide_eq_true, decide_eq_false, if_pos, if_neg, wrap_in, maxLen, hb, htl2, hget, hset3]; with_reducible rfl)); (focus (simp (disch := omega) only [go_sem, decide_eq_true, decide_eq_false, if_pos, if_neg, wrap_in, maxLen, hb, htl2, hget, hset3]; with_reducible rfl))) | (apply end_e; (focus (simp (disch := omega) only [go_sem, decide_eq_true, decide_eq_false, if_pos, if_neg, wrap_in, maxLen, hb, htl2, hget, hset3]; with_reducible rfl)); (focus (simp (disch := omega) only [go_sem, decide_eq_true, decide_eq_false, if_pos, if_neg, wrap_in, maxLen, hb, htl2, hget, hset3]; with_reducible rfl)))
            | rfl)
          exact ⟨i + 1, by omega, by omega, Weak.of (by omega) (by simp [ConvL, Conv, ints]) (by simp (disch := omega) only [TabSub, look, if_pos, if_neg, Obj.refsOK, refsOKs, AV.refsOK, decide_eq_true_eq, Bool.and_true, Bool.and_self]; (repeat' apply And.intro) <;> first | trivial | omega | rfl | (simp; done)) (by simp (disch := omega) only [refsOKs, AV.refsOK, Bool.and_true, Bool.and_self, decide_eq_true_eq, Bool.true_and, Bool.and_eq_true]; try omega)⟩
        · have hie : i = row.length := by
            have : ¬ i < row.length := by simpa using hc
            omega
          have hfin : (tab g.nodes.length fun u => (if u = v then -1 else opn g t u) - ((row.take i).count (u : Int) : Nat)) = tab g.nodes.length fun u => opn g (t.set v true) u := tab_congr fun u hu => by rw [hop2 u hu, hie, List.take_length]
          repeat (first
            | refine awp_seq ?_ | refine awp_block ?_ | refine awp_ret ?_ | refine awp_skip ?_ | refine awp_exit ?_ | refine awp_label ?_
            | refine then_normal ?_ | refine then_ret ?_ | refine then_exit ?_ | refine block_normal ?_ | refine block_ret ?_ | refine block_exit ?_ | refine block_out rfl ?_
            | (apply awp_reg hΓ; (focus (simp (disch := omega) only [go_sem, decide_eq_true, decide_eq_false, if_pos, if_neg, wrap_in, maxLen]; with_reducible rfl)))
            | (apply awp_regf mixedOK hΓ (by kernel_rfl); (focus (simp (disch := omega) only [go_sem, decide_eq_true, decide_eq_false, if_pos, if_neg, wrap_in, maxLen]; with_reducible rfl)); (focus (simp only [go_sem]; with_reducible rfl)))
            | (apply awp_regt mixedOK hΓ rfl; (focus kernel_rfl); (focus (simp (disch := omega) only [go_sem, decide_eq_true, decide_eq_false, if_pos, if_neg, wrap_in, maxLen]; with_reducible rfl)); (focus (simp only [go_sem]; with_reducible rfl)); (focus (simp (disch := omega) only [go_sem, decide_eq_true, decide_eq_false, if_pos, if_neg, wrap_in, maxLen]; with_reducible rfl)))
            | (apply awp_cond_t; (focus (simp (disch := omega) only [go_sem, decide_eq_true, decide_eq_false, if_pos, if_neg, wrap_in, maxLen]; done))) | (apply awp_cond_f; (focus (simp (disch := omega) only [go_sem, decide_eq_true, decide_eq_false, if_pos, if_neg, wrap_in, maxLen]; done)))
            | (apply ret_e; (focus (simp (disch := omega) only [go_sem, decide_eq_true, decide_eq_false, if_pos, if_neg, wrap_in, maxLen]; with_reducible rfl)); (focus (simp (disch := omega) only [go_sem, decide_eq_true, decide_eq_false, if_pos, if_neg, wrap_in, maxLen]; with_reducible rfl))) | (apply end_e; (focus (simp (disch := omega) only [go_sem, decide_eq_true, decide_eq_false, if_pos, if_neg, wrap_in, maxLen]; with_reducible rfl)); (focus (simp (disch := omega) only [go_sem, decide_eq_true, decide_eq_false, if_pos, if_neg, wrap_in, maxLen]; with_reducible rfl)))
            | rfl)
          refine ⟨(k, t.set v true, acc ++ [(v : Int)]), ⟨by simp [ht], by simp; omega, hord, hsh2⟩, by dsimp only; omega, Weak.of (by omega) (by simp [ConvL, Conv, ints, hfin]) (by simp (disch := omega) only [TabSub, look, if_pos, if_neg, Obj.refsOK, refsOKs, AV.refsOK, decide_eq_true_eq, Bool.and_true, Bool.and_self, hfin]; (repeat' apply And.intro) <;> first | trivial | omega | rfl | (simp; done)) (by simp (disch := omega) only [refsOKs, AV.refsOK, Bool.and_true, Bool.and_self, decide_eq_true_eq, Bool.true_and, Bool.and_eq_true]; try omega)⟩
      · rw [if_neg hin] at e30
        simp only [ord, if_neg hin] at hord
        repeat (first
          | refine awp_seq ?_ | refine awp_block ?_ | refine awp_ret ?_ | refine awp_skip ?_ | refine awp_exit ?_ | refine awp_label ?_
          | refine then_normal ?_ | refine then_ret ?_ | refine then_exit ?_ | refine block_normal ?_ | refine block_ret ?_ | refine block_exit ?_ | refine block_out rfl ?_
          | (apply awp_reg hΓ; (focus (simp (disch := omega) only [go_sem, decide_eq_true, decide_eq_false, if_pos, if_neg, wrap_in, maxLen, Γ11, e30]; with_reducible rfl)))
          | (apply awp_regf mixedOK hΓ (by kernel_rfl); (focus (simp (disch := omega) only [go_sem, decide_eq_true, decide_eq_false, if_pos, if_neg, wrap_in, maxLen, Γ11, e30]; with_reducible rfl)); (focus (simp only [go_sem]; with_reducible rfl)))
          | (apply awp_regt mixedOK hΓ rfl; (focus kernel_rfl); (focus (simp (disch := omega) only [go_sem, decide_eq_true, decide_eq_false, if_pos, if_neg, wrap_in, maxLen, Γ11, e30]; with_reducible rfl)); (focus (simp only [go_sem]; with_reducible rfl)); (focus (simp (disch := omega) only [go_sem, decide_eq_true, decide_eq_false, if_pos, if_neg, wrap_in, maxLen, Γ11, e30]; with_reducible rfl)))
          | (apply awp_cond_t; (focus (simp (disch := omega) only [go_sem, decide_eq_true, decide_eq_false, if_pos, if_neg, wrap_in, maxLen, Γ11, e30]; done))) | (apply awp_cond_f; (focus (simp (disch := omega) only [go_sem, decide_eq_true, decide_eq_false, if_pos, if_neg, wrap_in, maxLen, Γ11, e30]; done)))
          | (apply ret_e; (focus (simp (disch := omega) only [go_sem, decide_eq_true, decide_eq_false, if_pos, if_neg, wrap_in, maxLen, Γ11, e30]; with_reducible rfl)); (focus (simp (disch := omega) only [go_sem, decide_eq_true, decide_eq_false, if_pos, if_neg, wrap_in, maxLen, Γ11, e30]; with_reducible rfl))) | (apply end_e; (focus (simp (disch := omega) only [go_sem, decide_eq_true, decide_eq_false, if_pos, if_neg, wrap_in, maxLen, Γ11, e30]; with_reducible rfl)); (focus (simp (disch := omega) only [go_sem, decide_eq_true, decide_eq_false, if_pos, if_neg, wrap_in, maxLen, Γ11, e30]; with_reducible rfl)))
          | rfl)
        simp [orderR, hc0, ← hord]
  · have h3 : (chk g != 0) = true := by simpa using hc0
    repeat (first
      | refine awp_seq ?_ | refine awp_block ?_ | refine awp_ret ?_ | refine awp_skip ?_ | refine awp_exit ?_ | refine awp_label ?_
      | refine then_normal ?_ | refine then_ret ?_ | refine then_exit ?_ | refine block_normal ?_ | refine block_ret ?_ | refine block_exit ?_ | refine block_out rfl ?_
      | (apply awp_reg hΓ; (focus (simp (disch := omega) only [go_sem, decide_eq_true, decide_eq_false, if_pos, if_neg, wrap_in, maxLen, Γ11, e20, h3]; with_reducible rfl)))
      | (apply awp_regf mixedOK hΓ (by kernel_rfl); (focus (simp (disch := omega) only [go_sem, decide_eq_true, decide_eq_false, if_pos, if_neg, wrap_in, maxLen, Γ11, e20, h3]; with_reducible rfl)); (focus (simp only [go_sem]; with_reducible rfl)))
      | (apply awp_regt mixedOK hΓ rfl; (focus kernel_rfl); (focus (simp (disch := omega) only [go_sem, decide_eq_true, decide_eq_false, if_pos, if_neg, wrap_in, maxLen, Γ11, e20, h3]; with_reducible rfl)); (focus (simp only [go_sem]; with_reducible rfl)); (focus (simp (disch := omega) only [go_sem, decide_eq_true, decide_eq_false, if_pos, if_neg, wrap_in, maxLen, Γ11, e20, h3]; with_reducible rfl)))
      | (apply awp_cond_t; (focus (simp (disch := omega) only [go_sem, decide_eq_true, decide_eq_false, if_pos, if_neg, wrap_in, maxLen, Γ11, e20, h3]; done))) | (apply awp_cond_f; (focus (simp (disch := omega) only [go_sem, decide_eq_true, decide_eq_false, if_pos, if_neg, wrap_in, maxLen, Γ11, e20, h3]; done)))
      | (apply ret_e; (focus (simp (disch := omega) only [go_sem, decide_eq_true, decide_eq_false, if_pos, if_neg, wrap_in, maxLen, Γ11, e20, h3]; with_reducible rfl)); (focus (simp (disch := omega) only [go_sem, decide_eq_true, decide_eq_false, if_pos, if_neg, wrap_in, maxLen, Γ11, e20, h3]; with_reducible rfl))) | (apply end_e; (focus (simp (disch := omega) only [go_sem, decide_eq_true, decide_eq_false, if_pos, if_neg, wrap_in, maxLen, Γ11, e20, h3]; with_reducible rfl)); (focus (simp (disch := omega) only [go_sem, decide_eq_true, decide_eq_false, if_pos, if_neg, wrap_in, maxLen, Γ11, e20, h3]; with_reducible rfl)))
      | rfl)
    simp [orderR, hc0]
end Go.Ab
