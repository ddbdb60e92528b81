/-
  One text of the proof (own work): contracts of functions of the program, by the abstract machine.
-/
import Derived.Test.YtmcgfohokniepaaU7
set_option linter.unusedVariables false
set_option linter.unusedSimpArgs false
namespace Go.Ab
open Go Go.RowKit Go.Proofs
set_option maxRecDepth 4000
set_option maxHeartbeats 4000000

/-! ### Status -/
theorem vld_01 (l : List Now) : vld l = 0 ∨ vld l = 1 := by
  unfold vld
  split
  · exact .inr rfl
  · split
    · exact .inl rfl
    · exact .inr rfl
def stR (r : Rev) (l : List Now) : D := if vld l = 0 then .tup [.list ((stds r l).map eS), i64 0] else .tup [.list [], i64 1]
noncomputable def g15 : List D → Option D := encSpec (fun x : Rev × List Now => [eR x.1, .list (x.2.map eN)]) (fun x => SzA x.1 x.2) (fun x => stR x.1 x.2)
theorem g15_eq {r : Rev} {l : List Now} (h : SzA r l) : g15 [.agg [.list (r.rvs.map eRw), .list (r.pks.map ePk), .list (r.dcs.map eDc), .list (r.dps.map eDp)], .list (l.map eN)] = some (stR r l) := encSpec_eq (x := (r, l)) h fun y hy => by
  obtain ⟨y1, y2⟩ := y
  simp only [List.cons.injEq, and_true, D.list.injEq] at hy
  rw [eR_inj _ _ hy.1, map_inj eN_inj hy.2]
noncomputable def Γ15 : FuncId → Option CSpec := fun f => if f = 22 then some (.pure true g22) else if f = 39 then some (.pure false g39) else none
theorem Γ15_ok : ∀ f s, Γ15 f = some s → SpecOK Try.prog f s := by
  intro f s h
  unfold Γ15 at h
  split at h
  · rename_i hf; cases h; subst hf; exact f22_ok
  split at h
  · rename_i hf; cases h; subst hf; exact f39_ok
  · cases h
theorem f15_ok : PureOK Try.prog 15 false g15 := by
  have hΓ := Γ15_ok
  refine pure_enc (n := 16) (rs := [.tmp 4, .tmp 5]) Try.func15 (by kernel_rfl) rfl (by kernel_rfl) (by kernel_rfl) ?_
  rintro ⟨r, l⟩ hz
  dsimp only at hz ⊢
  refine ⟨fun h => (by cases h), fun k hz0 => ?_⟩
  have e22 := g22_eq hz.v.l
  have e39 := g39_eq hz
  have h10 : ((1 : Int) != 0) = true := rfl
  have h00 : ((0 : Int) != 0) = false := rfl
  rw [start_frame (by simp)]; simp only [enumV, go_sem, emptyH]
  rcases vld_01 l with h | h
  · have hs : stR r l = .tup [.list ((stds r l).map eS), i64 0] := by simp [stR, h]
    rw [h] at e22
    repeat (first
      | refine awp_seq ?_ | refine awp_block ?_ | refine awp_ret ?_ | refine awp_skip ?_ | refine awp_exit ?_ | refine awp_label ?_
      | refine then_normal ?_ | refine then_ret ?_ | refine then_exit ?_ | refine block_normal ?_ | refine block_ret ?_ | refine block_exit ?_ | refine block_out rfl ?_
      | (apply awp_reg hΓ; (focus (simp (disch := omega) only [go_sem, ↓reduceIte, ↓map_lit, ↓List.map_cons, ↓List.map_nil, ↓ty_build72, decide_eq_true, decide_eq_false, if_pos, if_neg, wrap_in, maxLen, Γ15, e22, e39, h00]; with_reducible rfl)))
      | (apply awp_regf mixedOK hΓ (by kernel_rfl); (focus (simp (disch := omega) only [go_sem, ↓reduceIte, ↓map_lit, ↓List.map_cons, ↓List.map_nil, ↓ty_build72, decide_eq_true, decide_eq_false, if_pos, if_neg, wrap_in, maxLen, Γ15, e22, e39, h00]; with_reducible rfl)); (focus (simp only [go_sem]; with_reducible rfl)))
      | (apply awp_regt mixedOK hΓ rfl; (focus kernel_rfl); (focus (simp (disch := omega) only [go_sem, ↓reduceIte, ↓map_lit, ↓List.map_cons, ↓List.map_nil, ↓ty_build72, decide_eq_true, decide_eq_false, if_pos, if_neg, wrap_in, maxLen, Γ15, e22, e39, h00]; with_reducible rfl)); (focus (simp only [go_sem]; with_reducible rfl)); (focus (simp (disch := omega) only [go_sem, ↓reduceIte, ↓map_lit, ↓List.map_cons, ↓List.map_nil, ↓ty_build72, decide_eq_true, decide_eq_false, if_pos, if_neg, wrap_in, maxLen, Γ15, e22, e39, h00]; with_reducible rfl)))
      | (apply awp_cond_t; (focus (simp (disch := omega) only [go_sem, ↓reduceIte, ↓map_lit, ↓List.map_cons, ↓List.map_nil, ↓ty_build72, decide_eq_true, decide_eq_false, if_pos, if_neg, wrap_in, maxLen, Γ15, e22, e39, h00]; done))) | (apply awp_cond_f; (focus (simp (disch := omega) only [go_sem, ↓reduceIte, ↓map_lit, ↓List.map_cons, ↓List.map_nil, ↓ty_build72, decide_eq_true, decide_eq_false, if_pos, if_neg, wrap_in, maxLen, Γ15, e22, e39, h00]; done)))
      | (apply ret_e; (focus (simp (disch := omega) only [go_sem, ↓reduceIte, ↓map_lit, ↓List.map_cons, ↓List.map_nil, ↓ty_build72, decide_eq_true, decide_eq_false, if_pos, if_neg, wrap_in, maxLen, Γ15, e22, e39, h00]; with_reducible rfl)); (focus (simp (disch := omega) only [go_sem, ↓reduceIte, ↓map_lit, ↓List.map_cons, ↓List.map_nil, ↓ty_build72, decide_eq_true, decide_eq_false, if_pos, if_neg, wrap_in, maxLen, Γ15, e22, e39, h00]; with_reducible rfl))) | (apply end_e; (focus (simp (disch := omega) only [go_sem, ↓reduceIte, ↓map_lit, ↓List.map_cons, ↓List.map_nil, ↓ty_build72, decide_eq_true, decide_eq_false, if_pos, if_neg, wrap_in, maxLen, Γ15, e22, e39, h00]; with_reducible rfl)); (focus (simp (disch := omega) only [go_sem, ↓reduceIte, ↓map_lit, ↓List.map_cons, ↓List.map_nil, ↓ty_build72, decide_eq_true, decide_eq_false, if_pos, if_neg, wrap_in, maxLen, Γ15, e22, e39, h00]; with_reducible rfl)))
      | rfl)
    rw [hs]
  · have hs : stR r l = .tup [.list [], i64 1] := by simp [stR, h]
    rw [h] at e22
    repeat (first
      | refine awp_seq ?_ | refine awp_block ?_ | refine awp_ret ?_ | refine awp_skip ?_ | refine awp_exit ?_ | refine awp_label ?_
      | refine then_normal ?_ | refine then_ret ?_ | refine then_exit ?_ | refine block_normal ?_ | refine block_ret ?_ | refine block_exit ?_ | refine block_out rfl ?_
      | (apply awp_reg hΓ; (focus (simp (disch := omega) only [go_sem, ↓reduceIte, decide_eq_true, decide_eq_false, if_pos, if_neg, wrap_in, maxLen, Γ15, e22, h10]; with_reducible rfl)))
      | (apply awp_regf mixedOK hΓ (by kernel_rfl); (focus (simp (disch := omega) only [go_sem, ↓reduceIte, decide_eq_true, decide_eq_false, if_pos, if_neg, wrap_in, maxLen, Γ15, e22, h10]; with_reducible rfl)); (focus (simp only [go_sem]; with_reducible rfl)))
      | (apply awp_regt mixedOK hΓ rfl; (focus kernel_rfl); (focus (simp (disch := omega) only [go_sem, ↓reduceIte, decide_eq_true, decide_eq_false, if_pos, if_neg, wrap_in, maxLen, Γ15, e22, h10]; with_reducible rfl)); (focus (simp only [go_sem]; with_reducible rfl)); (focus (simp (disch := omega) only [go_sem, ↓reduceIte, decide_eq_true, decide_eq_false, if_pos, if_neg, wrap_in, maxLen, Γ15, e22, h10]; with_reducible rfl)))
      | (apply awp_cond_t; (focus (simp (disch := omega) only [go_sem, ↓reduceIte, decide_eq_true, decide_eq_false, if_pos, if_neg, wrap_in, maxLen, Γ15, e22, h10]; done))) | (apply awp_cond_f; (focus (simp (disch := omega) only [go_sem, ↓reduceIte, decide_eq_true, decide_eq_false, if_pos, if_neg, wrap_in, maxLen, Γ15, e22, h10]; done)))
      | (apply ret_e; (focus (simp (disch := omega) only [go_sem, ↓reduceIte, decide_eq_true, decide_eq_false, if_pos, if_neg, wrap_in, maxLen, Γ15, e22, h10]; with_reducible rfl)); (focus (simp (disch := omega) only [go_sem, ↓reduceIte, decide_eq_true, decide_eq_false, if_pos, if_neg, wrap_in, maxLen, Γ15, e22, h10]; with_reducible rfl))) | (apply end_e; (focus (simp (disch := omega) only [go_sem, ↓reduceIte, decide_eq_true, decide_eq_false, if_pos, if_neg, wrap_in, maxLen, Γ15, e22, h10]; with_reducible rfl)); (focus (simp (disch := omega) only [go_sem, ↓reduceIte, decide_eq_true, decide_eq_false, if_pos, if_neg, wrap_in, maxLen, Γ15, e22, h10]; with_reducible rfl)))
      | rfl)
    rw [hs]
noncomputable def Γ17 : FuncId → Option CSpec := fun f => if f = 23 then some (.pure true g22) else if f = 40 then some (.pure true g40) else none
theorem Γ17_ok : ∀ f s, Γ17 f = some s → SpecOK Try.prog f s := by
  intro f s h
  unfold Γ17 at h
  split at h
  · rename_i hf; cases h; subst hf; exact f23_ok
  split at h
  · rename_i hf; cases h; subst hf; exact f40_ok
  · cases h
theorem f17_ok : PureOK Try.prog 17 false g15 := by
  have hΓ := Γ17_ok
  refine pure_enc (n := 37) (rs := [.tmp 4, .tmp 5]) Try.func17 (by kernel_rfl) rfl (by kernel_rfl) (by kernel_rfl) ?_
  rintro ⟨r, l⟩ hz
  dsimp only at hz ⊢
  have hdl := hz.v.r.dcs
  refine ⟨fun h => (by cases h), fun k hz0 => ?_⟩
  have e22 := g22_eq hz.v.l
  have h10 : ((1 : Int) != 0) = true := rfl
  have h00 : ((0 : Int) != 0) = false := rfl
  rw [start_frame (by simp)]; simp only [enumV, go_sem, emptyH]
  rcases vld_01 l with h | h
  case inr =>
    have hs : stR r l = .tup [.list [], i64 1] := by simp [stR, h]
    rw [h] at e22
    repeat (first
      | refine awp_seq ?_ | refine awp_block ?_ | refine awp_ret ?_ | refine awp_skip ?_ | refine awp_exit ?_ | refine awp_label ?_
      | refine then_normal ?_ | refine then_ret ?_ | refine then_exit ?_ | refine block_normal ?_ | refine block_ret ?_ | refine block_exit ?_ | refine block_out rfl ?_
      | (apply awp_reg hΓ; (focus (simp (disch := omega) only [go_sem, ↓reduceIte, decide_eq_true, decide_eq_false, if_pos, if_neg, wrap_in, maxLen, Γ17, e22, h10]; with_reducible rfl)))
      | (apply awp_regf mixedOK hΓ (by kernel_rfl); (focus (simp (disch := omega) only [go_sem, ↓reduceIte, decide_eq_true, decide_eq_false, if_pos, if_neg, wrap_in, maxLen, Γ17, e22, h10]; with_reducible rfl)); (focus (simp only [go_sem]; with_reducible rfl)))
      | (apply awp_regt mixedOK hΓ rfl; (focus kernel_rfl); (focus (simp (disch := omega) only [go_sem, ↓reduceIte, decide_eq_true, decide_eq_false, if_pos, if_neg, wrap_in, maxLen, Γ17, e22, h10]; with_reducible rfl)); (focus (simp only [go_sem]; with_reducible rfl)); (focus (simp (disch := omega) only [go_sem, ↓reduceIte, decide_eq_true, decide_eq_false, if_pos, if_neg, wrap_in, maxLen, Γ17, e22, h10]; with_reducible rfl)))
      | (apply awp_cond_t; (focus (simp (disch := omega) only [go_sem, ↓reduceIte, decide_eq_true, decide_eq_false, if_pos, if_neg, wrap_in, maxLen, Γ17, e22, h10]; done))) | (apply awp_cond_f; (focus (simp (disch := omega) only [go_sem, ↓reduceIte, decide_eq_true, decide_eq_false, if_pos, if_neg, wrap_in, maxLen, Γ17, e22, h10]; done)))
      | (apply ret_e; (focus (simp (disch := omega) only [go_sem, ↓reduceIte, decide_eq_true, decide_eq_false, if_pos, if_neg, wrap_in, maxLen, Γ17, e22, h10]; with_reducible rfl)); (focus (simp (disch := omega) only [go_sem, ↓reduceIte, decide_eq_true, decide_eq_false, if_pos, if_neg, wrap_in, maxLen, Γ17, e22, h10]; with_reducible rfl))) | (apply end_e; (focus (simp (disch := omega) only [go_sem, ↓reduceIte, decide_eq_true, decide_eq_false, if_pos, if_neg, wrap_in, maxLen, Γ17, e22, h10]; with_reducible rfl)); (focus (simp (disch := omega) only [go_sem, ↓reduceIte, decide_eq_true, decide_eq_false, if_pos, if_neg, wrap_in, maxLen, Γ17, e22, h10]; with_reducible rfl)))
      | rfl)
    rw [hs]
  have hs : stR r l = .tup [.list ((stds r l).map eS), i64 0] := by simp [stR, h]
  rw [h] at e22
  have hsl := stds_len r l
  repeat (first
    | refine awp_seq ?_ | refine awp_block ?_ | refine awp_ret ?_ | refine awp_skip ?_ | refine awp_exit ?_ | refine awp_label ?_
    | refine then_normal ?_ | refine then_ret ?_ | refine then_exit ?_ | refine block_normal ?_ | refine block_ret ?_ | refine block_exit ?_ | refine block_out rfl ?_
    | (apply awp_reg hΓ; (focus (simp (disch := omega) only [go_sem, ↓reduceIte, decide_eq_true, decide_eq_false, if_pos, if_neg, wrap_in, maxLen, Γ17, e22, h00]; with_reducible rfl)))
    | (apply awp_regf mixedOK hΓ (by kernel_rfl); (focus (simp (disch := omega) only [go_sem, ↓reduceIte, decide_eq_true, decide_eq_false, if_pos, if_neg, wrap_in, maxLen, Γ17, e22, h00]; with_reducible rfl)); (focus (simp only [go_sem]; with_reducible rfl)))
    | (apply awp_regt mixedOK hΓ rfl; (focus kernel_rfl); (focus (simp (disch := omega) only [go_sem, ↓reduceIte, decide_eq_true, decide_eq_false, if_pos, if_neg, wrap_in, maxLen, Γ17, e22, h00]; with_reducible rfl)); (focus (simp only [go_sem]; with_reducible rfl)); (focus (simp (disch := omega) only [go_sem, ↓reduceIte, decide_eq_true, decide_eq_false, if_pos, if_neg, wrap_in, maxLen, Γ17, e22, h00]; with_reducible rfl)))
    | (apply awp_cond_t; (focus (simp (disch := omega) only [go_sem, ↓reduceIte, decide_eq_true, decide_eq_false, if_pos, if_neg, wrap_in, maxLen, Γ17, e22, h00]; done))) | (apply awp_cond_f; (focus (simp (disch := omega) only [go_sem, ↓reduceIte, decide_eq_true, decide_eq_false, if_pos, if_neg, wrap_in, maxLen, Γ17, e22, h00]; done)))
    | (apply ret_e; (focus (simp (disch := omega) only [go_sem, ↓reduceIte, decide_eq_true, decide_eq_false, if_pos, if_neg, wrap_in, maxLen, Γ17, e22, h00]; with_reducible rfl)); (focus (simp (disch := omega) only [go_sem, ↓reduceIte, decide_eq_true, decide_eq_false, if_pos, if_neg, wrap_in, maxLen, Γ17, e22, h00]; with_reducible rfl))) | (apply end_e; (focus (simp (disch := omega) only [go_sem, ↓reduceIte, decide_eq_true, decide_eq_false, if_pos, if_neg, wrap_in, maxLen, Γ17, e22, h00]; with_reducible rfl)); (focus (simp (disch := omega) only [go_sem, ↓reduceIte, decide_eq_true, decide_eq_false, if_pos, if_neg, wrap_in, maxLen, Γ17, e22, h00]; with_reducible rfl)))
    | rfl)
  refine awp_loop_at (X := Nat) (fun i => (frame 37 [(1, .data (.list (l.map eN))), (2, .ptr 0 0), (6, .row 8 i), (7, .data (i64 i))]))
    (fun i => [(0, .box [.data (.list (r.rvs.map eRw)), .data (.list (r.pks.map ePk)), .data (.list (r.dcs.map eDc)), .data (.list (r.dps.map eDp))]), (8, .row 44 2 (((stds r l).take i).map eS))]) 9
    (fun i => i ≤ r.dcs.length) (fun i => r.dcs.length - i) 0 (Nat.zero_le _) ((Weak.nilrowF (i := 6) 44 (sz := 2) (by omega) (by omega) rfl).trans (Weak.ofF (by omega) (by simp [ConvF, lookV, Conv, ints]) (by (simp (disch := omega) only [TabSub, look, if_pos, if_neg, Obj.refsOK, refsOKs, AV.refsOK, decide_eq_true_eq, Bool.and_true, Bool.and_self] ) <;> ((repeat' apply And.intro) <;> first | exact True.intro | omega | (simp; done) | rfl)) (by simp (disch := omega) only [refsF, AV.refsOK, Bool.and_true, Bool.and_self, decide_eq_true_eq, Bool.true_and, Bool.and_eq_true]; try omega))) ?_
  intro i hi
  have htl : ((stds r l).take i).length = i := by rw [List.length_take, hsl]; omega
  by_cases hi2 : i < r.dcs.length
  · have hq := hz.q _ (List.getElem_mem hi2)
    have hnx := stds_succ (l := l) hi2
    generalize hy : r.dcs[i] = y at hq hnx
    have e40 := g40_eq hz hq
    repeat (first
      | refine awp_seq ?_ | refine awp_block ?_ | refine awp_ret ?_ | refine awp_skip ?_ | refine awp_exit ?_ | refine awp_label ?_
      | refine then_normal ?_ | refine then_ret ?_ | refine then_exit ?_ | refine block_normal ?_ | refine block_ret ?_ | refine block_exit ?_ | refine block_out rfl ?_
      | (apply awp_reg hΓ; (focus (simp (disch := omega) only [go_sem, ↓reduceIte, ↓map_lit, ↓List.map_cons, ↓List.map_nil, decide_eq_true, decide_eq_false, if_pos, if_neg, wrap_in, maxLen, eDc, hy]; with_reducible rfl)))
      | (apply awp_regf mixedOK hΓ (by kernel_rfl); (focus (simp (disch := omega) only [go_sem, ↓reduceIte, ↓map_lit, ↓List.map_cons, ↓List.map_nil, decide_eq_true, decide_eq_false, if_pos, if_neg, wrap_in, maxLen, eDc, hy]; with_reducible rfl)); (focus (simp only [go_sem]; with_reducible rfl)))
      | (apply awp_regt mixedOK hΓ rfl; (focus kernel_rfl); (focus (simp (disch := omega) only [go_sem, ↓reduceIte, ↓map_lit, ↓List.map_cons, ↓List.map_nil, decide_eq_true, decide_eq_false, if_pos, if_neg, wrap_in, maxLen, eDc, hy]; with_reducible rfl)); (focus (simp only [go_sem]; with_reducible rfl)); (focus (simp (disch := omega) only [go_sem, ↓reduceIte, ↓map_lit, ↓List.map_cons, ↓List.map_nil, decide_eq_true, decide_eq_false, if_pos, if_neg, wrap_in, maxLen, eDc, hy]; with_reducible rfl)))
      | (apply awp_cond_t; (focus (simp (disch := omega) only [go_sem, ↓reduceIte, ↓map_lit, ↓List.map_cons, ↓List.map_nil, decide_eq_true, decide_eq_false, if_pos, if_neg, wrap_in, maxLen, eDc, hy]; done))) | (apply awp_cond_f; (focus (simp (disch := omega) only [go_sem, ↓reduceIte, ↓map_lit, ↓List.map_cons, ↓List.map_nil, decide_eq_true, decide_eq_false, if_pos, if_neg, wrap_in, maxLen, eDc, hy]; done)))
      | (apply ret_e; (focus (simp (disch := omega) only [go_sem, ↓reduceIte, ↓map_lit, ↓List.map_cons, ↓List.map_nil, decide_eq_true, decide_eq_false, if_pos, if_neg, wrap_in, maxLen, eDc, hy]; with_reducible rfl)); (focus (simp (disch := omega) only [go_sem, ↓reduceIte, ↓map_lit, ↓List.map_cons, ↓List.map_nil, decide_eq_true, decide_eq_false, if_pos, if_neg, wrap_in, maxLen, eDc, hy]; with_reducible rfl))) | (apply end_e; (focus (simp (disch := omega) only [go_sem, ↓reduceIte, ↓map_lit, ↓List.map_cons, ↓List.map_nil, decide_eq_true, decide_eq_false, if_pos, if_neg, wrap_in, maxLen, eDc, hy]; with_reducible rfl)); (focus (simp (disch := omega) only [go_sem, ↓reduceIte, ↓map_lit, ↓List.map_cons, ↓List.map_nil, decide_eq_true, decide_eq_false, if_pos, if_neg, wrap_in, maxLen, eDc, hy]; with_reducible rfl)))
      | rfl)
    (apply awp_regm (nst := false) (nst' := false) 17 mixedOK hΓ (by kernel_rfl); (focus (simp (disch := omega) only [go_sem, ↓reduceIte, ↓map_lit, ↓List.map_cons, ↓List.map_nil, ↓ty_build44, decide_eq_true, decide_eq_false, if_pos, if_neg, wrap_in, maxLen, eDc, hy, Γ17, e40, htl, hnx, look_upd]; with_reducible rfl)); (focus (simp (disch := omega) only [go_sem, ↓reduceIte]; with_reducible rfl)); (focus rfl); (focus rfl); (focus (simp (disch := omega) only [go_sem, ↓reduceIte, ↓map_lit, ↓List.map_cons, ↓List.map_nil, ↓ty_build44, decide_eq_true, decide_eq_false, if_pos, if_neg, wrap_in, maxLen, eDc, hy, Γ17, e40, htl, hnx, look_upd]; with_reducible rfl)); (focus (first | (simp (disch := omega) only [go_sem, ↓reduceIte, ↓map_lit, ↓List.map_cons, ↓List.map_nil, ↓ty_build44, decide_eq_true, decide_eq_false, if_pos, if_neg, wrap_in, maxLen, eDc, hy, Γ17, e40, htl, hnx, look_upd]; done) | (simp (disch := omega) only [go_sem, ↓reduceIte, ↓map_lit, ↓List.map_cons, ↓List.map_nil, ↓ty_build44, decide_eq_true, decide_eq_false, if_pos, if_neg, wrap_in, maxLen, eDc, hy, Γ17, e40, htl, hnx, look_upd]; omega))); (focus (dsimp only [List.take_succ_cons, List.take_zero]; (repeat (apply same2_cons; (focus (first | (left; decide) | (right; simp (disch := omega) only [go_sem, ↓reduceIte, ↓map_lit, ↓List.map_cons, ↓List.map_nil, ↓ty_build44, decide_eq_true, decide_eq_false, if_pos, if_neg, wrap_in, maxLen, eDc, hy, Γ17, e40, htl, hnx, look_upd]; done))); (focus (simp (disch := omega) only [go_sem, ↓reduceIte, ↓map_lit, ↓List.map_cons, ↓List.map_nil, ↓ty_build44, decide_eq_true, decide_eq_false, if_pos, if_neg, wrap_in, maxLen, eDc, hy, Γ17, e40, htl, hnx, look_upd]; with_reducible rfl)))); exact same2_nil)); (focus (simp (disch := omega) only [go_sem, ↓reduceIte, ↓map_lit, ↓List.map_cons, ↓List.map_nil, ↓ty_build44, decide_eq_true, decide_eq_false, if_pos, if_neg, wrap_in, maxLen, eDc, hy, Γ17, e40, htl, hnx, look_upd]; with_reducible rfl)))
    repeat (first
      | refine awp_seq ?_ | refine awp_block ?_ | refine awp_ret ?_ | refine awp_skip ?_ | refine awp_exit ?_ | refine awp_label ?_
      | refine then_normal ?_ | refine then_ret ?_ | refine then_exit ?_ | refine block_normal ?_ | refine block_ret ?_ | refine block_exit ?_ | refine block_out rfl ?_
      | (apply awp_reg hΓ; (focus (simp (disch := omega) only [go_sem, ↓reduceIte, ↓map_lit, ↓List.map_cons, ↓List.map_nil, decide_eq_true, decide_eq_false, if_pos, if_neg, wrap_in, maxLen]; with_reducible rfl)))
      | (apply awp_regf mixedOK hΓ (by kernel_rfl); (focus (simp (disch := omega) only [go_sem, ↓reduceIte, ↓map_lit, ↓List.map_cons, ↓List.map_nil, decide_eq_true, decide_eq_false, if_pos, if_neg, wrap_in, maxLen]; with_reducible rfl)); (focus (simp only [go_sem]; with_reducible rfl)))
      | (apply awp_regt mixedOK hΓ rfl; (focus kernel_rfl); (focus (simp (disch := omega) only [go_sem, ↓reduceIte, ↓map_lit, ↓List.map_cons, ↓List.map_nil, decide_eq_true, decide_eq_false, if_pos, if_neg, wrap_in, maxLen]; with_reducible rfl)); (focus (simp only [go_sem]; with_reducible rfl)); (focus (simp (disch := omega) only [go_sem, ↓reduceIte, ↓map_lit, ↓List.map_cons, ↓List.map_nil, decide_eq_true, decide_eq_false, if_pos, if_neg, wrap_in, maxLen]; with_reducible rfl)))
      | (apply awp_cond_t; (focus (simp (disch := omega) only [go_sem, ↓reduceIte, ↓map_lit, ↓List.map_cons, ↓List.map_nil, decide_eq_true, decide_eq_false, if_pos, if_neg, wrap_in, maxLen]; done))) | (apply awp_cond_f; (focus (simp (disch := omega) only [go_sem, ↓reduceIte, ↓map_lit, ↓List.map_cons, ↓List.map_nil, decide_eq_true, decide_eq_false, if_pos, if_neg, wrap_in, maxLen]; done)))
      | (apply ret_e; (focus (simp (disch := omega) only [go_sem, ↓reduceIte, ↓map_lit, ↓List.map_cons, ↓List.map_nil, decide_eq_true, decide_eq_false, if_pos, if_neg, wrap_in, maxLen]; with_reducible rfl)); (focus (simp (disch := omega) only [go_sem, ↓reduceIte, ↓map_lit, ↓List.map_cons, ↓List.map_nil, decide_eq_true, decide_eq_false, if_pos, if_neg, wrap_in, maxLen]; with_reducible rfl))) | (apply end_e; (focus (simp (disch := omega) only [go_sem, ↓reduceIte, ↓map_lit, ↓List.map_cons, ↓List.map_nil, decide_eq_true, decide_eq_false, if_pos, if_neg, wrap_in, maxLen]; with_reducible rfl)); (focus (simp (disch := omega) only [go_sem, ↓reduceIte, ↓map_lit, ↓List.map_cons, ↓List.map_nil, decide_eq_true, decide_eq_false, if_pos, if_neg, wrap_in, maxLen]; with_reducible rfl)))
      | rfl)
    exact ⟨i + 1, by omega, by omega, Weak.ofF (by omega) (by simp [ConvF, lookV, Conv, ints]) (by (simp (disch := omega) only [TabSub, look, if_pos, if_neg, Obj.refsOK, refsOKs, AV.refsOK, decide_eq_true_eq, Bool.and_true, Bool.and_self] ) <;> ((repeat' apply And.intro) <;> first | exact True.intro | omega | (simp; done) | rfl)) (by simp (disch := omega) only [refsF, AV.refsOK, Bool.and_true, Bool.and_self, decide_eq_true_eq, Bool.true_and, Bool.and_eq_true]; try omega)⟩
  have hi3 : i = r.dcs.length := by omega
  subst hi3
  have hall : (stds r l).take r.dcs.length = stds r l := List.take_of_length_le (by omega)
  repeat (first
    | refine awp_seq ?_ | refine awp_block ?_ | refine awp_ret ?_ | refine awp_skip ?_ | refine awp_exit ?_ | refine awp_label ?_
    | refine then_normal ?_ | refine then_ret ?_ | refine then_exit ?_ | refine block_normal ?_ | refine block_ret ?_ | refine block_exit ?_ | refine block_out rfl ?_
    | (apply awp_reg hΓ; (focus (simp (disch := omega) only [go_sem, ↓reduceIte, decide_eq_true, decide_eq_false, if_pos, if_neg, wrap_in, maxLen, htl, hall]; with_reducible rfl)))
    | (apply awp_regf mixedOK hΓ (by kernel_rfl); (focus (simp (disch := omega) only [go_sem, ↓reduceIte, decide_eq_true, decide_eq_false, if_pos, if_neg, wrap_in, maxLen, htl, hall]; with_reducible rfl)); (focus (simp only [go_sem]; with_reducible rfl)))
    | (apply awp_regt mixedOK hΓ rfl; (focus kernel_rfl); (focus (simp (disch := omega) only [go_sem, ↓reduceIte, decide_eq_true, decide_eq_false, if_pos, if_neg, wrap_in, maxLen, htl, hall]; with_reducible rfl)); (focus (simp only [go_sem]; with_reducible rfl)); (focus (simp (disch := omega) only [go_sem, ↓reduceIte, decide_eq_true, decide_eq_false, if_pos, if_neg, wrap_in, maxLen, htl, hall]; with_reducible rfl)))
    | (apply awp_cond_t; (focus (simp (disch := omega) only [go_sem, ↓reduceIte, decide_eq_true, decide_eq_false, if_pos, if_neg, wrap_in, maxLen, htl, hall]; done))) | (apply awp_cond_f; (focus (simp (disch := omega) only [go_sem, ↓reduceIte, decide_eq_true, decide_eq_false, if_pos, if_neg, wrap_in, maxLen, htl, hall]; done)))
    | (apply ret_e; (focus (simp (disch := omega) only [go_sem, ↓reduceIte, decide_eq_true, decide_eq_false, if_pos, if_neg, wrap_in, maxLen, htl, hall]; with_reducible rfl)); (focus (simp (disch := omega) only [go_sem, ↓reduceIte, decide_eq_true, decide_eq_false, if_pos, if_neg, wrap_in, maxLen, htl, hall]; with_reducible rfl))) | (apply end_e; (focus (simp (disch := omega) only [go_sem, ↓reduceIte, decide_eq_true, decide_eq_false, if_pos, if_neg, wrap_in, maxLen, htl, hall]; with_reducible rfl)); (focus (simp (disch := omega) only [go_sem, ↓reduceIte, decide_eq_true, decide_eq_false, if_pos, if_neg, wrap_in, maxLen, htl, hall]; with_reducible rfl)))
    | rfl)
  rw [hs]
/-! ### What is the same is equal -/
theorem eq44 (a : Sd) : eqAgg Try.prog 44 [.str a.id, .int .i64 a.st] [.str a.id, .int .i64 a.st] = some true := by
  have hu : Program.underlying Try.prog 44 = some (.struct #[⟨"ID", 9, 0, false, "", "", 0⟩, ⟨"Status", 3, 1, false, "", "", 16⟩]) := by kernel_rfl
  have hg : (Try.prog.stoodInHeld 44 || Try.prog.eqGuardType Try.prog.depth 44) = false := by kernel_rfl
  unfold eqAgg
  rw [hu]
  simp only [hg, Bool.false_eq_true, if_false]
  simp [eqFlds, keyKind, keyEq, ty_und9, ty_agg9, ty_und3, ty_agg3]
noncomputable def g20 : List D → Option D := encSpec (fun l : List Sd => [.list (l.map eS), .list (l.map eS)]) (fun l => l.length ≤ 1099511627776) (fun _ => .bool true)
theorem g20_eq {l : List Sd} (h : l.length ≤ 1099511627776) : g20 [.list (l.map eS), .list (l.map eS)] = some (.bool true) := encSpec_eq (x := l) h fun y hy => rfl
theorem f20_ok : PureOK Try.prog 20 true g20 := by
  have hΓ := Γ0_ok
  refine pure_enc (n := 26) (rs := [.tmp 4]) Try.func20 (by kernel_rfl) rfl (by kernel_rfl) (by kernel_rfl) ?_
  intro l hl
  refine ⟨fun _ => .bool _, fun k hz0 => ?_⟩
  have hne : ((l.length : Int) != (l.length : Int)) = false := by simp
  rw [start_frame (by simp)]; simp only [enumV, go_sem, emptyH]
  repeat (first
    | refine awp_seq ?_ | refine awp_block ?_ | refine awp_ret ?_ | refine awp_skip ?_ | refine awp_exit ?_ | refine awp_label ?_
    | refine then_normal ?_ | refine then_ret ?_ | refine then_exit ?_ | refine block_normal ?_ | refine block_ret ?_ | refine block_exit ?_ | refine block_out rfl ?_
    | (apply awp_reg hΓ; (focus (simp (disch := omega) only [go_sem, ↓reduceIte, decide_eq_true, decide_eq_false, if_pos, if_neg, wrap_in, maxLen, hne]; with_reducible rfl)))
    | (apply awp_regf mixedOK hΓ (by kernel_rfl); (focus (simp (disch := omega) only [go_sem, ↓reduceIte, decide_eq_true, decide_eq_false, if_pos, if_neg, wrap_in, maxLen, hne]; with_reducible rfl)); (focus (simp only [go_sem]; with_reducible rfl)))
    | (apply awp_regt mixedOK hΓ rfl; (focus kernel_rfl); (focus (simp (disch := omega) only [go_sem, ↓reduceIte, decide_eq_true, decide_eq_false, if_pos, if_neg, wrap_in, maxLen, hne]; with_reducible rfl)); (focus (simp only [go_sem]; with_reducible rfl)); (focus (simp (disch := omega) only [go_sem, ↓reduceIte, decide_eq_true, decide_eq_false, if_pos, if_neg, wrap_in, maxLen, hne]; with_reducible rfl)))
    | (apply awp_cond_t; (focus (simp (disch := omega) only [go_sem, ↓reduceIte, decide_eq_true, decide_eq_false, if_pos, if_neg, wrap_in, maxLen, hne]; done))) | (apply awp_cond_f; (focus (simp (disch := omega) only [go_sem, ↓reduceIte, decide_eq_true, decide_eq_false, if_pos, if_neg, wrap_in, maxLen, hne]; done)))
    | (apply ret_e; (focus (simp (disch := omega) only [go_sem, ↓reduceIte, decide_eq_true, decide_eq_false, if_pos, if_neg, wrap_in, maxLen, hne]; with_reducible rfl)); (focus (simp (disch := omega) only [go_sem, ↓reduceIte, decide_eq_true, decide_eq_false, if_pos, if_neg, wrap_in, maxLen, hne]; with_reducible rfl))) | (apply end_e; (focus (simp (disch := omega) only [go_sem, ↓reduceIte, decide_eq_true, decide_eq_false, if_pos, if_neg, wrap_in, maxLen, hne]; with_reducible rfl)); (focus (simp (disch := omega) only [go_sem, ↓reduceIte, decide_eq_true, decide_eq_false, if_pos, if_neg, wrap_in, maxLen, hne]; with_reducible rfl)))
    | rfl)
  refine awp_loop_at (X := Nat) (fun i => (frame 26 [(0, .data (.list (l.map eS))), (1, .data (.list (l.map eS))), (12, .data (i64 l.length)), (13, .data (i64 i))])) (fun _ => []) 0
    (fun i => i ≤ l.length) (fun i => l.length - i) 0 (Nat.zero_le _) (Weak.ofF (by omega) (by simp [ConvF, lookV, Conv, ints]) (by (simp (disch := omega) only [TabSub, look, if_pos, if_neg, Obj.refsOK, refsOKs, AV.refsOK, decide_eq_true_eq, Bool.and_true, Bool.and_self] ) <;> ((repeat' apply And.intro) <;> first | exact True.intro | omega | (simp; done) | rfl)) (by simp (disch := omega) only [refsF, AV.refsOK, Bool.and_true, Bool.and_self, decide_eq_true_eq, Bool.true_and, Bool.and_eq_true]; try omega)) ?_
  intro i hi
  by_cases hi2 : i < l.length
  · have he := eq44 l[i]
    generalize hy : l[i] = y at he
    repeat (first
      | refine awp_seq ?_ | refine awp_block ?_ | refine awp_ret ?_ | refine awp_skip ?_ | refine awp_exit ?_ | refine awp_label ?_
      | refine then_normal ?_ | refine then_ret ?_ | refine then_exit ?_ | refine block_normal ?_ | refine block_ret ?_ | refine block_exit ?_ | refine block_out rfl ?_
      | (apply awp_reg hΓ; (focus (simp (disch := omega) only [go_sem, ↓reduceIte, decide_eq_true, decide_eq_false, if_pos, if_neg, wrap_in, maxLen, eS, hy, ↓he]; with_reducible rfl)))
      | (apply awp_regf mixedOK hΓ (by kernel_rfl); (focus (simp (disch := omega) only [go_sem, ↓reduceIte, decide_eq_true, decide_eq_false, if_pos, if_neg, wrap_in, maxLen, eS, hy, ↓he]; with_reducible rfl)); (focus (simp only [go_sem]; with_reducible rfl)))
      | (apply awp_regt mixedOK hΓ rfl; (focus kernel_rfl); (focus (simp (disch := omega) only [go_sem, ↓reduceIte, decide_eq_true, decide_eq_false, if_pos, if_neg, wrap_in, maxLen, eS, hy, ↓he]; with_reducible rfl)); (focus (simp only [go_sem]; with_reducible rfl)); (focus (simp (disch := omega) only [go_sem, ↓reduceIte, decide_eq_true, decide_eq_false, if_pos, if_neg, wrap_in, maxLen, eS, hy, ↓he]; with_reducible rfl)))
      | (apply awp_cond_t; (focus (simp (disch := omega) only [go_sem, ↓reduceIte, decide_eq_true, decide_eq_false, if_pos, if_neg, wrap_in, maxLen, eS, hy, ↓he]; done))) | (apply awp_cond_f; (focus (simp (disch := omega) only [go_sem, ↓reduceIte, decide_eq_true, decide_eq_false, if_pos, if_neg, wrap_in, maxLen, eS, hy, ↓he]; done)))
      | (apply ret_e; (focus (simp (disch := omega) only [go_sem, ↓reduceIte, decide_eq_true, decide_eq_false, if_pos, if_neg, wrap_in, maxLen, eS, hy, ↓he]; with_reducible rfl)); (focus (simp (disch := omega) only [go_sem, ↓reduceIte, decide_eq_true, decide_eq_false, if_pos, if_neg, wrap_in, maxLen, eS, hy, ↓he]; with_reducible rfl))) | (apply end_e; (focus (simp (disch := omega) only [go_sem, ↓reduceIte, decide_eq_true, decide_eq_false, if_pos, if_neg, wrap_in, maxLen, eS, hy, ↓he]; with_reducible rfl)); (focus (simp (disch := omega) only [go_sem, ↓reduceIte, decide_eq_true, decide_eq_false, if_pos, if_neg, wrap_in, maxLen, eS, hy, ↓he]; with_reducible rfl)))
      | rfl)
    exact ⟨i + 1, by omega, by omega, Weak.ofF (by omega) (by simp [ConvF, lookV, Conv, ints]) (by (simp (disch := omega) only [TabSub, look, if_pos, if_neg, Obj.refsOK, refsOKs, AV.refsOK, decide_eq_true_eq, Bool.and_true, Bool.and_self] ) <;> ((repeat' apply And.intro) <;> first | exact True.intro | omega | (simp; done) | rfl)) (by simp (disch := omega) only [refsF, AV.refsOK, Bool.and_true, Bool.and_self, decide_eq_true_eq, Bool.true_and, Bool.and_eq_true]; try omega)⟩
  · repeat (first
    | refine awp_seq ?_ | refine awp_block ?_ | refine awp_ret ?_ | refine awp_skip ?_ | refine awp_exit ?_ | refine awp_label ?_
    | refine then_normal ?_ | refine then_ret ?_ | refine then_exit ?_ | refine block_normal ?_ | refine block_ret ?_ | refine block_exit ?_ | refine block_out rfl ?_
    | (apply awp_reg hΓ; (focus (simp (disch := omega) only [go_sem, ↓reduceIte, decide_eq_true, decide_eq_false, if_pos, if_neg, wrap_in, maxLen]; with_reducible rfl)))
    | (apply awp_regf mixedOK hΓ (by kernel_rfl); (focus (simp (disch := omega) only [go_sem, ↓reduceIte, decide_eq_true, decide_eq_false, if_pos, if_neg, wrap_in, maxLen]; with_reducible rfl)); (focus (simp only [go_sem]; with_reducible rfl)))
    | (apply awp_regt mixedOK hΓ rfl; (focus kernel_rfl); (focus (simp (disch := omega) only [go_sem, ↓reduceIte, decide_eq_true, decide_eq_false, if_pos, if_neg, wrap_in, maxLen]; with_reducible rfl)); (focus (simp only [go_sem]; with_reducible rfl)); (focus (simp (disch := omega) only [go_sem, ↓reduceIte, decide_eq_true, decide_eq_false, if_pos, if_neg, wrap_in, maxLen]; with_reducible rfl)))
    | (apply awp_cond_t; (focus (simp (disch := omega) only [go_sem, ↓reduceIte, decide_eq_true, decide_eq_false, if_pos, if_neg, wrap_in, maxLen]; done))) | (apply awp_cond_f; (focus (simp (disch := omega) only [go_sem, ↓reduceIte, decide_eq_true, decide_eq_false, if_pos, if_neg, wrap_in, maxLen]; done)))
    | (apply ret_e; (focus (simp (disch := omega) only [go_sem, ↓reduceIte, decide_eq_true, decide_eq_false, if_pos, if_neg, wrap_in, maxLen]; with_reducible rfl)); (focus (simp (disch := omega) only [go_sem, ↓reduceIte, decide_eq_true, decide_eq_false, if_pos, if_neg, wrap_in, maxLen]; with_reducible rfl))) | (apply end_e; (focus (simp (disch := omega) only [go_sem, ↓reduceIte, decide_eq_true, decide_eq_false, if_pos, if_neg, wrap_in, maxLen]; with_reducible rfl)); (focus (simp (disch := omega) only [go_sem, ↓reduceIte, decide_eq_true, decide_eq_false, if_pos, if_neg, wrap_in, maxLen]; with_reducible rfl)))
    | rfl)
noncomputable def g21 : List D → Option D := encSpec (fun l : List Now => [.list (l.map eN), .list (l.map eN)]) (fun l => l.length ≤ 1099511627776) (fun _ => .bool true)
theorem g21_eq {l : List Now} (h : l.length ≤ 1099511627776) : g21 [.list (l.map eN), .list (l.map eN)] = some (.bool true) := encSpec_eq (x := l) h fun y hy => rfl
theorem f21_ok : PureOK Try.prog 21 true g21 := by
  have hΓ := Γ0_ok
  refine pure_enc (n := 26) (rs := [.tmp 4]) Try.func21 (by kernel_rfl) rfl (by kernel_rfl) (by kernel_rfl) ?_
  intro l hl
  refine ⟨fun _ => .bool _, fun k hz0 => ?_⟩
  have hne : ((l.length : Int) != (l.length : Int)) = false := by simp
  rw [start_frame (by simp)]; simp only [enumV, go_sem, emptyH]
  repeat (first
    | refine awp_seq ?_ | refine awp_block ?_ | refine awp_ret ?_ | refine awp_skip ?_ | refine awp_exit ?_ | refine awp_label ?_
    | refine then_normal ?_ | refine then_ret ?_ | refine then_exit ?_ | refine block_normal ?_ | refine block_ret ?_ | refine block_exit ?_ | refine block_out rfl ?_
    | (apply awp_reg hΓ; (focus (simp (disch := omega) only [go_sem, ↓reduceIte, decide_eq_true, decide_eq_false, if_pos, if_neg, wrap_in, maxLen, hne]; with_reducible rfl)))
    | (apply awp_regf mixedOK hΓ (by kernel_rfl); (focus (simp (disch := omega) only [go_sem, ↓reduceIte, decide_eq_true, decide_eq_false, if_pos, if_neg, wrap_in, maxLen, hne]; with_reducible rfl)); (focus (simp only [go_sem]; with_reducible rfl)))
    | (apply awp_regt mixedOK hΓ rfl; (focus kernel_rfl); (focus (simp (disch := omega) only [go_sem, ↓reduceIte, decide_eq_true, decide_eq_false, if_pos, if_neg, wrap_in, maxLen, hne]; with_reducible rfl)); (focus (simp only [go_sem]; with_reducible rfl)); (focus (simp (disch := omega) only [go_sem, ↓reduceIte, decide_eq_true, decide_eq_false, if_pos, if_neg, wrap_in, maxLen, hne]; with_reducible rfl)))
    | (apply awp_cond_t; (focus (simp (disch := omega) only [go_sem, ↓reduceIte, decide_eq_true, decide_eq_false, if_pos, if_neg, wrap_in, maxLen, hne]; done))) | (apply awp_cond_f; (focus (simp (disch := omega) only [go_sem, ↓reduceIte, decide_eq_true, decide_eq_false, if_pos, if_neg, wrap_in, maxLen, hne]; done)))
    | (apply ret_e; (focus (simp (disch := omega) only [go_sem, ↓reduceIte, decide_eq_true, decide_eq_false, if_pos, if_neg, wrap_in, maxLen, hne]; with_reducible rfl)); (focus (simp (disch := omega) only [go_sem, ↓reduceIte, decide_eq_true, decide_eq_false, if_pos, if_neg, wrap_in, maxLen, hne]; with_reducible rfl))) | (apply end_e; (focus (simp (disch := omega) only [go_sem, ↓reduceIte, decide_eq_true, decide_eq_false, if_pos, if_neg, wrap_in, maxLen, hne]; with_reducible rfl)); (focus (simp (disch := omega) only [go_sem, ↓reduceIte, decide_eq_true, decide_eq_false, if_pos, if_neg, wrap_in, maxLen, hne]; with_reducible rfl)))
    | rfl)
  refine awp_loop_at (X := Nat) (fun i => (frame 26 [(0, .data (.list (l.map eN))), (1, .data (.list (l.map eN))), (5, .data (i64 i))])) (fun _ => []) 0
    (fun i => i ≤ l.length) (fun i => l.length - i) 0 (Nat.zero_le _) (Weak.ofF (by omega) (by simp [ConvF, lookV, Conv, ints]) (by (simp (disch := omega) only [TabSub, look, if_pos, if_neg, Obj.refsOK, refsOKs, AV.refsOK, decide_eq_true_eq, Bool.and_true, Bool.and_self] ) <;> ((repeat' apply And.intro) <;> first | exact True.intro | omega | (simp; done) | rfl)) (by simp (disch := omega) only [refsF, AV.refsOK, Bool.and_true, Bool.and_self, decide_eq_true_eq, Bool.true_and, Bool.and_eq_true]; try omega)) ?_
  intro i hi
  by_cases hi2 : i < l.length
  · have he := eq39 l[i] l[i]
    rw [decide_eq_true rfl] at he
    generalize hy : l[i] = y at he
    repeat (first
      | refine awp_seq ?_ | refine awp_block ?_ | refine awp_ret ?_ | refine awp_skip ?_ | refine awp_exit ?_ | refine awp_label ?_
      | refine then_normal ?_ | refine then_ret ?_ | refine then_exit ?_ | refine block_normal ?_ | refine block_ret ?_ | refine block_exit ?_ | refine block_out rfl ?_
      | (apply awp_reg hΓ; (focus (simp (disch := omega) only [go_sem, ↓reduceIte, decide_eq_true, decide_eq_false, if_pos, if_neg, wrap_in, maxLen, eN, hy, ↓he]; with_reducible rfl)))
      | (apply awp_regf mixedOK hΓ (by kernel_rfl); (focus (simp (disch := omega) only [go_sem, ↓reduceIte, decide_eq_true, decide_eq_false, if_pos, if_neg, wrap_in, maxLen, eN, hy, ↓he]; with_reducible rfl)); (focus (simp only [go_sem]; with_reducible rfl)))
      | (apply awp_regt mixedOK hΓ rfl; (focus kernel_rfl); (focus (simp (disch := omega) only [go_sem, ↓reduceIte, decide_eq_true, decide_eq_false, if_pos, if_neg, wrap_in, maxLen, eN, hy, ↓he]; with_reducible rfl)); (focus (simp only [go_sem]; with_reducible rfl)); (focus (simp (disch := omega) only [go_sem, ↓reduceIte, decide_eq_true, decide_eq_false, if_pos, if_neg, wrap_in, maxLen, eN, hy, ↓he]; with_reducible rfl)))
      | (apply awp_cond_t; (focus (simp (disch := omega) only [go_sem, ↓reduceIte, decide_eq_true, decide_eq_false, if_pos, if_neg, wrap_in, maxLen, eN, hy, ↓he]; done))) | (apply awp_cond_f; (focus (simp (disch := omega) only [go_sem, ↓reduceIte, decide_eq_true, decide_eq_false, if_pos, if_neg, wrap_in, maxLen, eN, hy, ↓he]; done)))
      | (apply ret_e; (focus (simp (disch := omega) only [go_sem, ↓reduceIte, decide_eq_true, decide_eq_false, if_pos, if_neg, wrap_in, maxLen, eN, hy, ↓he]; with_reducible rfl)); (focus (simp (disch := omega) only [go_sem, ↓reduceIte, decide_eq_true, decide_eq_false, if_pos, if_neg, wrap_in, maxLen, eN, hy, ↓he]; with_reducible rfl))) | (apply end_e; (focus (simp (disch := omega) only [go_sem, ↓reduceIte, decide_eq_true, decide_eq_false, if_pos, if_neg, wrap_in, maxLen, eN, hy, ↓he]; with_reducible rfl)); (focus (simp (disch := omega) only [go_sem, ↓reduceIte, decide_eq_true, decide_eq_false, if_pos, if_neg, wrap_in, maxLen, eN, hy, ↓he]; with_reducible rfl)))
      | rfl)
    exact ⟨i + 1, by omega, by omega, Weak.ofF (by omega) (by simp [ConvF, lookV, Conv, ints]) (by (simp (disch := omega) only [TabSub, look, if_pos, if_neg, Obj.refsOK, refsOKs, AV.refsOK, decide_eq_true_eq, Bool.and_true, Bool.and_self] ) <;> ((repeat' apply And.intro) <;> first | exact True.intro | omega | (simp; done) | rfl)) (by simp (disch := omega) only [refsF, AV.refsOK, Bool.and_true, Bool.and_self, decide_eq_true_eq, Bool.true_and, Bool.and_eq_true]; try omega)⟩
  · repeat (first
    | refine awp_seq ?_ | refine awp_block ?_ | refine awp_ret ?_ | refine awp_skip ?_ | refine awp_exit ?_ | refine awp_label ?_
    | refine then_normal ?_ | refine then_ret ?_ | refine then_exit ?_ | refine block_normal ?_ | refine block_ret ?_ | refine block_exit ?_ | refine block_out rfl ?_
    | (apply awp_reg hΓ; (focus (simp (disch := omega) only [go_sem, ↓reduceIte, decide_eq_true, decide_eq_false, if_pos, if_neg, wrap_in, maxLen]; with_reducible rfl)))
    | (apply awp_regf mixedOK hΓ (by kernel_rfl); (focus (simp (disch := omega) only [go_sem, ↓reduceIte, decide_eq_true, decide_eq_false, if_pos, if_neg, wrap_in, maxLen]; with_reducible rfl)); (focus (simp only [go_sem]; with_reducible rfl)))
    | (apply awp_regt mixedOK hΓ rfl; (focus kernel_rfl); (focus (simp (disch := omega) only [go_sem, ↓reduceIte, decide_eq_true, decide_eq_false, if_pos, if_neg, wrap_in, maxLen]; with_reducible rfl)); (focus (simp only [go_sem]; with_reducible rfl)); (focus (simp (disch := omega) only [go_sem, ↓reduceIte, decide_eq_true, decide_eq_false, if_pos, if_neg, wrap_in, maxLen]; with_reducible rfl)))
    | (apply awp_cond_t; (focus (simp (disch := omega) only [go_sem, ↓reduceIte, decide_eq_true, decide_eq_false, if_pos, if_neg, wrap_in, maxLen]; done))) | (apply awp_cond_f; (focus (simp (disch := omega) only [go_sem, ↓reduceIte, decide_eq_true, decide_eq_false, if_pos, if_neg, wrap_in, maxLen]; done)))
    | (apply ret_e; (focus (simp (disch := omega) only [go_sem, ↓reduceIte, decide_eq_true, decide_eq_false, if_pos, if_neg, wrap_in, maxLen]; with_reducible rfl)); (focus (simp (disch := omega) only [go_sem, ↓reduceIte, decide_eq_true, decide_eq_false, if_pos, if_neg, wrap_in, maxLen]; with_reducible rfl))) | (apply end_e; (focus (simp (disch := omega) only [go_sem, ↓reduceIte, decide_eq_true, decide_eq_false, if_pos, if_neg, wrap_in, maxLen]; with_reducible rfl)); (focus (simp (disch := omega) only [go_sem, ↓reduceIte, decide_eq_true, decide_eq_false, if_pos, if_neg, wrap_in, maxLen]; with_reducible rfl)))
    | rfl)
def few51 (r : Rev) (l : List Now) : Bool := decide (r.rvs.length ≤ 20 ∧ r.pks.length ≤ 20 ∧ r.dcs.length ≤ 20 ∧ r.dps.length ≤ 20 ∧ l.length ≤ 20)
noncomputable def g14 : List D → Option D := encSpec (fun x : Rev × List Now => [eR x.1, .list (x.2.map eN)]) (fun x => SzV x.1 x.2) (fun x => .bool (few51 x.1 x.2))
theorem g14_eq {r : Rev} {l : List Now} (h : SzV r l) : g14 [.agg [.list (r.rvs.map eRw), .list (r.pks.map ePk), .list (r.dcs.map eDc), .list (r.dps.map eDp)], .list (l.map eN)] = some (.bool (few51 r l)) := encSpec_eq (x := (r, l)) h fun y hy => by
  obtain ⟨y1, y2⟩ := y
  simp only [List.cons.injEq, and_true, D.list.injEq] at hy
  rw [eR_inj _ _ hy.1, map_inj eN_inj hy.2]
theorem f14_ok : PureOK Try.prog 14 true g14 := by
  have hΓ := Γ0_ok
  refine pure_enc (n := 32) (rs := [.tmp 4]) Try.func14 (by kernel_rfl) rfl (by kernel_rfl) (by kernel_rfl) ?_
  rintro ⟨r, l⟩ hz
  dsimp only at hz ⊢
  obtain ⟨⟨z1, z2, z3, z4⟩, z5⟩ := hz
  refine ⟨fun _ => .bool _, fun k hz0 => ?_⟩
  have no : ¬ (r.rvs.length ≤ 20 ∧ r.pks.length ≤ 20 ∧ r.dcs.length ≤ 20 ∧ r.dps.length ≤ 20 ∧ l.length ≤ 20) → few51 r l = false := fun h => decide_eq_false h
  rw [start_frame (by simp)]; simp only [enumV, go_sem, emptyH]
  by_cases h1 : r.rvs.length ≤ 20
  case neg =>
    have hf := no (by omega)
    repeat (first
      | refine awp_seq ?_ | refine awp_block ?_ | refine awp_ret ?_ | refine awp_skip ?_ | refine awp_exit ?_ | refine awp_label ?_
      | refine then_normal ?_ | refine then_ret ?_ | refine then_exit ?_ | refine block_normal ?_ | refine block_ret ?_ | refine block_exit ?_ | refine block_out rfl ?_
      | (apply awp_reg hΓ; (focus (simp (disch := omega) only [go_sem, ↓reduceIte, decide_eq_true, decide_eq_false, if_pos, if_neg, wrap_in, maxLen]; with_reducible rfl)))
      | (apply awp_regf mixedOK hΓ (by kernel_rfl); (focus (simp (disch := omega) only [go_sem, ↓reduceIte, decide_eq_true, decide_eq_false, if_pos, if_neg, wrap_in, maxLen]; with_reducible rfl)); (focus (simp only [go_sem]; with_reducible rfl)))
      | (apply awp_regt mixedOK hΓ rfl; (focus kernel_rfl); (focus (simp (disch := omega) only [go_sem, ↓reduceIte, decide_eq_true, decide_eq_false, if_pos, if_neg, wrap_in, maxLen]; with_reducible rfl)); (focus (simp only [go_sem]; with_reducible rfl)); (focus (simp (disch := omega) only [go_sem, ↓reduceIte, decide_eq_true, decide_eq_false, if_pos, if_neg, wrap_in, maxLen]; with_reducible rfl)))
      | (apply awp_cond_t; (focus (simp (disch := omega) only [go_sem, ↓reduceIte, decide_eq_true, decide_eq_false, if_pos, if_neg, wrap_in, maxLen]; done))) | (apply awp_cond_f; (focus (simp (disch := omega) only [go_sem, ↓reduceIte, decide_eq_true, decide_eq_false, if_pos, if_neg, wrap_in, maxLen]; done)))
      | (apply ret_e; (focus (simp (disch := omega) only [go_sem, ↓reduceIte, decide_eq_true, decide_eq_false, if_pos, if_neg, wrap_in, maxLen]; with_reducible rfl)); (focus (simp (disch := omega) only [go_sem, ↓reduceIte, decide_eq_true, decide_eq_false, if_pos, if_neg, wrap_in, maxLen]; with_reducible rfl))) | (apply end_e; (focus (simp (disch := omega) only [go_sem, ↓reduceIte, decide_eq_true, decide_eq_false, if_pos, if_neg, wrap_in, maxLen]; with_reducible rfl)); (focus (simp (disch := omega) only [go_sem, ↓reduceIte, decide_eq_true, decide_eq_false, if_pos, if_neg, wrap_in, maxLen]; with_reducible rfl)))
      | rfl)
    rw [hf]
  by_cases h2 : r.pks.length ≤ 20
  case neg =>
    have hf := no (by omega)
    repeat (first
      | refine awp_seq ?_ | refine awp_block ?_ | refine awp_ret ?_ | refine awp_skip ?_ | refine awp_exit ?_ | refine awp_label ?_
      | refine then_normal ?_ | refine then_ret ?_ | refine then_exit ?_ | refine block_normal ?_ | refine block_ret ?_ | refine block_exit ?_ | refine block_out rfl ?_
      | (apply awp_reg hΓ; (focus (simp (disch := omega) only [go_sem, ↓reduceIte, decide_eq_true, decide_eq_false, if_pos, if_neg, wrap_in, maxLen]; with_reducible rfl)))
      | (apply awp_regf mixedOK hΓ (by kernel_rfl); (focus (simp (disch := omega) only [go_sem, ↓reduceIte, decide_eq_true, decide_eq_false, if_pos, if_neg, wrap_in, maxLen]; with_reducible rfl)); (focus (simp only [go_sem]; with_reducible rfl)))
      | (apply awp_regt mixedOK hΓ rfl; (focus kernel_rfl); (focus (simp (disch := omega) only [go_sem, ↓reduceIte, decide_eq_true, decide_eq_false, if_pos, if_neg, wrap_in, maxLen]; with_reducible rfl)); (focus (simp only [go_sem]; with_reducible rfl)); (focus (simp (disch := omega) only [go_sem, ↓reduceIte, decide_eq_true, decide_eq_false, if_pos, if_neg, wrap_in, maxLen]; with_reducible rfl)))
      | (apply awp_cond_t; (focus (simp (disch := omega) only [go_sem, ↓reduceIte, decide_eq_true, decide_eq_false, if_pos, if_neg, wrap_in, maxLen]; done))) | (apply awp_cond_f; (focus (simp (disch := omega) only [go_sem, ↓reduceIte, decide_eq_true, decide_eq_false, if_pos, if_neg, wrap_in, maxLen]; done)))
      | (apply ret_e; (focus (simp (disch := omega) only [go_sem, ↓reduceIte, decide_eq_true, decide_eq_false, if_pos, if_neg, wrap_in, maxLen]; with_reducible rfl)); (focus (simp (disch := omega) only [go_sem, ↓reduceIte, decide_eq_true, decide_eq_false, if_pos, if_neg, wrap_in, maxLen]; with_reducible rfl))) | (apply end_e; (focus (simp (disch := omega) only [go_sem, ↓reduceIte, decide_eq_true, decide_eq_false, if_pos, if_neg, wrap_in, maxLen]; with_reducible rfl)); (focus (simp (disch := omega) only [go_sem, ↓reduceIte, decide_eq_true, decide_eq_false, if_pos, if_neg, wrap_in, maxLen]; with_reducible rfl)))
      | rfl)
    rw [hf]
  by_cases h3 : r.dcs.length ≤ 20
  case neg =>
    have hf := no (by omega)
    repeat (first
      | refine awp_seq ?_ | refine awp_block ?_ | refine awp_ret ?_ | refine awp_skip ?_ | refine awp_exit ?_ | refine awp_label ?_
      | refine then_normal ?_ | refine then_ret ?_ | refine then_exit ?_ | refine block_normal ?_ | refine block_ret ?_ | refine block_exit ?_ | refine block_out rfl ?_
      | (apply awp_reg hΓ; (focus (simp (disch := omega) only [go_sem, ↓reduceIte, decide_eq_true, decide_eq_false, if_pos, if_neg, wrap_in, maxLen]; with_reducible rfl)))
      | (apply awp_regf mixedOK hΓ (by kernel_rfl); (focus (simp (disch := omega) only [go_sem, ↓reduceIte, decide_eq_true, decide_eq_false, if_pos, if_neg, wrap_in, maxLen]; with_reducible rfl)); (focus (simp only [go_sem]; with_reducible rfl)))
      | (apply awp_regt mixedOK hΓ rfl; (focus kernel_rfl); (focus (simp (disch := omega) only [go_sem, ↓reduceIte, decide_eq_true, decide_eq_false, if_pos, if_neg, wrap_in, maxLen]; with_reducible rfl)); (focus (simp only [go_sem]; with_reducible rfl)); (focus (simp (disch := omega) only [go_sem, ↓reduceIte, decide_eq_true, decide_eq_false, if_pos, if_neg, wrap_in, maxLen]; with_reducible rfl)))
      | (apply awp_cond_t; (focus (simp (disch := omega) only [go_sem, ↓reduceIte, decide_eq_true, decide_eq_false, if_pos, if_neg, wrap_in, maxLen]; done))) | (apply awp_cond_f; (focus (simp (disch := omega) only [go_sem, ↓reduceIte, decide_eq_true, decide_eq_false, if_pos, if_neg, wrap_in, maxLen]; done)))
      | (apply ret_e; (focus (simp (disch := omega) only [go_sem, ↓reduceIte, decide_eq_true, decide_eq_false, if_pos, if_neg, wrap_in, maxLen]; with_reducible rfl)); (focus (simp (disch := omega) only [go_sem, ↓reduceIte, decide_eq_true, decide_eq_false, if_pos, if_neg, wrap_in, maxLen]; with_reducible rfl))) | (apply end_e; (focus (simp (disch := omega) only [go_sem, ↓reduceIte, decide_eq_true, decide_eq_false, if_pos, if_neg, wrap_in, maxLen]; with_reducible rfl)); (focus (simp (disch := omega) only [go_sem, ↓reduceIte, decide_eq_true, decide_eq_false, if_pos, if_neg, wrap_in, maxLen]; with_reducible rfl)))
      | rfl)
    rw [hf]
  by_cases h4 : r.dps.length ≤ 20
  case neg =>
    have hf := no (by omega)
    repeat (first
      | refine awp_seq ?_ | refine awp_block ?_ | refine awp_ret ?_ | refine awp_skip ?_ | refine awp_exit ?_ | refine awp_label ?_
      | refine then_normal ?_ | refine then_ret ?_ | refine then_exit ?_ | refine block_normal ?_ | refine block_ret ?_ | refine block_exit ?_ | refine block_out rfl ?_
      | (apply awp_reg hΓ; (focus (simp (disch := omega) only [go_sem, ↓reduceIte, decide_eq_true, decide_eq_false, if_pos, if_neg, wrap_in, maxLen]; with_reducible rfl)))
      | (apply awp_regf mixedOK hΓ (by kernel_rfl); (focus (simp (disch := omega) only [go_sem, ↓reduceIte, decide_eq_true, decide_eq_false, if_pos, if_neg, wrap_in, maxLen]; with_reducible rfl)); (focus (simp only [go_sem]; with_reducible rfl)))
      | (apply awp_regt mixedOK hΓ rfl; (focus kernel_rfl); (focus (simp (disch := omega) only [go_sem, ↓reduceIte, decide_eq_true, decide_eq_false, if_pos, if_neg, wrap_in, maxLen]; with_reducible rfl)); (focus (simp only [go_sem]; with_reducible rfl)); (focus (simp (disch := omega) only [go_sem, ↓reduceIte, decide_eq_true, decide_eq_false, if_pos, if_neg, wrap_in, maxLen]; with_reducible rfl)))
      | (apply awp_cond_t; (focus (simp (disch := omega) only [go_sem, ↓reduceIte, decide_eq_true, decide_eq_false, if_pos, if_neg, wrap_in, maxLen]; done))) | (apply awp_cond_f; (focus (simp (disch := omega) only [go_sem, ↓reduceIte, decide_eq_true, decide_eq_false, if_pos, if_neg, wrap_in, maxLen]; done)))
      | (apply ret_e; (focus (simp (disch := omega) only [go_sem, ↓reduceIte, decide_eq_true, decide_eq_false, if_pos, if_neg, wrap_in, maxLen]; with_reducible rfl)); (focus (simp (disch := omega) only [go_sem, ↓reduceIte, decide_eq_true, decide_eq_false, if_pos, if_neg, wrap_in, maxLen]; with_reducible rfl))) | (apply end_e; (focus (simp (disch := omega) only [go_sem, ↓reduceIte, decide_eq_true, decide_eq_false, if_pos, if_neg, wrap_in, maxLen]; with_reducible rfl)); (focus (simp (disch := omega) only [go_sem, ↓reduceIte, decide_eq_true, decide_eq_false, if_pos, if_neg, wrap_in, maxLen]; with_reducible rfl)))
      | rfl)
    rw [hf]
  by_cases h5 : l.length ≤ 20
  case neg =>
    have hf := no (by omega)
    repeat (first
      | refine awp_seq ?_ | refine awp_block ?_ | refine awp_ret ?_ | refine awp_skip ?_ | refine awp_exit ?_ | refine awp_label ?_
      | refine then_normal ?_ | refine then_ret ?_ | refine then_exit ?_ | refine block_normal ?_ | refine block_ret ?_ | refine block_exit ?_ | refine block_out rfl ?_
      | (apply awp_reg hΓ; (focus (simp (disch := omega) only [go_sem, ↓reduceIte, decide_eq_true, decide_eq_false, if_pos, if_neg, wrap_in, maxLen]; with_reducible rfl)))
      | (apply awp_regf mixedOK hΓ (by kernel_rfl); (focus (simp (disch := omega) only [go_sem, ↓reduceIte, decide_eq_true, decide_eq_false, if_pos, if_neg, wrap_in, maxLen]; with_reducible rfl)); (focus (simp only [go_sem]; with_reducible rfl)))
      | (apply awp_regt mixedOK hΓ rfl; (focus kernel_rfl); (focus (simp (disch := omega) only [go_sem, ↓reduceIte, decide_eq_true, decide_eq_false, if_pos, if_neg, wrap_in, maxLen]; with_reducible rfl)); (focus (simp only [go_sem]; with_reducible rfl)); (focus (simp (disch := omega) only [go_sem, ↓reduceIte, decide_eq_true, decide_eq_false, if_pos, if_neg, wrap_in, maxLen]; with_reducible rfl)))
      | (apply awp_cond_t; (focus (simp (disch := omega) only [go_sem, ↓reduceIte, decide_eq_true, decide_eq_false, if_pos, if_neg, wrap_in, maxLen]; done))) | (apply awp_cond_f; (focus (simp (disch := omega) only [go_sem, ↓reduceIte, decide_eq_true, decide_eq_false, if_pos, if_neg, wrap_in, maxLen]; done)))
      | (apply ret_e; (focus (simp (disch := omega) only [go_sem, ↓reduceIte, decide_eq_true, decide_eq_false, if_pos, if_neg, wrap_in, maxLen]; with_reducible rfl)); (focus (simp (disch := omega) only [go_sem, ↓reduceIte, decide_eq_true, decide_eq_false, if_pos, if_neg, wrap_in, maxLen]; with_reducible rfl))) | (apply end_e; (focus (simp (disch := omega) only [go_sem, ↓reduceIte, decide_eq_true, decide_eq_false, if_pos, if_neg, wrap_in, maxLen]; with_reducible rfl)); (focus (simp (disch := omega) only [go_sem, ↓reduceIte, decide_eq_true, decide_eq_false, if_pos, if_neg, wrap_in, maxLen]; with_reducible rfl)))
      | rfl)
    rw [hf]
  have hf : few51 r l = true := decide_eq_true ⟨h1, h2, h3, h4, h5⟩
  repeat (first
    | refine awp_seq ?_ | refine awp_block ?_ | refine awp_ret ?_ | refine awp_skip ?_ | refine awp_exit ?_ | refine awp_label ?_
    | refine then_normal ?_ | refine then_ret ?_ | refine then_exit ?_ | refine block_normal ?_ | refine block_ret ?_ | refine block_exit ?_ | refine block_out rfl ?_
    | (apply awp_reg hΓ; (focus (simp (disch := omega) only [go_sem, ↓reduceIte, decide_eq_true, decide_eq_false, if_pos, if_neg, wrap_in, maxLen]; with_reducible rfl)))
    | (apply awp_regf mixedOK hΓ (by kernel_rfl); (focus (simp (disch := omega) only [go_sem, ↓reduceIte, decide_eq_true, decide_eq_false, if_pos, if_neg, wrap_in, maxLen]; with_reducible rfl)); (focus (simp only [go_sem]; with_reducible rfl)))
    | (apply awp_regt mixedOK hΓ rfl; (focus kernel_rfl); (focus (simp (disch := omega) only [go_sem, ↓reduceIte, decide_eq_true, decide_eq_false, if_pos, if_neg, wrap_in, maxLen]; with_reducible rfl)); (focus (simp only [go_sem]; with_reducible rfl)); (focus (simp (disch := omega) only [go_sem, ↓reduceIte, decide_eq_true, decide_eq_false, if_pos, if_neg, wrap_in, maxLen]; with_reducible rfl)))
    | (apply awp_cond_t; (focus (simp (disch := omega) only [go_sem, ↓reduceIte, decide_eq_true, decide_eq_false, if_pos, if_neg, wrap_in, maxLen]; done))) | (apply awp_cond_f; (focus (simp (disch := omega) only [go_sem, ↓reduceIte, decide_eq_true, decide_eq_false, if_pos, if_neg, wrap_in, maxLen]; done)))
    | (apply ret_e; (focus (simp (disch := omega) only [go_sem, ↓reduceIte, decide_eq_true, decide_eq_false, if_pos, if_neg, wrap_in, maxLen]; with_reducible rfl)); (focus (simp (disch := omega) only [go_sem, ↓reduceIte, decide_eq_true, decide_eq_false, if_pos, if_neg, wrap_in, maxLen]; with_reducible rfl))) | (apply end_e; (focus (simp (disch := omega) only [go_sem, ↓reduceIte, decide_eq_true, decide_eq_false, if_pos, if_neg, wrap_in, maxLen]; with_reducible rfl)); (focus (simp (disch := omega) only [go_sem, ↓reduceIte, decide_eq_true, decide_eq_false, if_pos, if_neg, wrap_in, maxLen]; with_reducible rfl)))
    | rfl)
  rw [hf]
end Go.Ab
