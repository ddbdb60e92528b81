/-
  One text of the proof (own work): contracts of functions of the program, by the abstract machine.
-/
import Derived.Test.YtmcgfohokniepaaU9
set_option linter.unusedVariables false
set_option linter.unusedSimpArgs false
namespace Go.Ab
open Go Go.RowKit Go.Proofs
set_option maxRecDepth 4000
set_option maxHeartbeats 4000000

/-! ### What is due -/
def open1 (r : Rev) (l : List Now) (x : Now) : Bool := (ansN r l x.q x.s r.dcs.length).isEmpty
def dues (r : Rev) (l : List Now) (m : List Now) : List Now := m.filter (open1 r l)
theorem dues_succ {r : Rev} {l m : List Now} {i : Nat} (h : i < m.length) : dues r l (m.take (i + 1)) = dues r l (m.take i) ++ (if open1 r l m[i] then [m[i]] else []) := by
  unfold dues
  rw [List.take_add_one, List.getElem?_eq_getElem h, List.filter_append]
  congr 1
  simp only [Option.toList_some, List.filter_cons, List.filter_nil]
theorem dues_len (r : Rev) (l m : List Now) : (dues r l m).length ≤ m.length := List.length_filter_le _ _
def duR (r : Rev) (l : List Now) : D := if vld l = 0 then .tup [.list ((dues r l l).map eN), i64 0] else .tup [.list [], i64 1]
noncomputable def g19 : List D → Option D := encSpec (fun x : Rev × List Now => [eR x.1, .list (x.2.map eN)]) (fun x => SzA x.1 x.2) (fun x => duR x.1 x.2)
theorem g19_eq {r : Rev} {l : List Now} (h : SzA r l) : g19 [.agg [.list (r.rvs.map eRw), .list (r.pks.map ePk), .list (r.dcs.map eDc), .list (r.dps.map eDp)], .list (l.map eN)] = some (duR r l) := encSpec_eq (x := (r, l)) h fun y hy => by
  obtain ⟨y1, y2⟩ := y
  simp only [List.cons.injEq, and_true, D.list.injEq] at hy
  rw [eR_inj _ _ hy.1, map_inj eN_inj hy.2]
noncomputable def Γ19 : FuncId → Option CSpec := fun f => if f = 23 then some (.pure true g22) else if f = 41 then some (.pure false g41) else none
theorem Γ19_ok : ∀ f s, Γ19 f = some s → SpecOK Try.prog f s := by
  intro f s h
  unfold Γ19 at h
  split at h
  · rename_i hf; cases h; subst hf; exact f23_ok
  split at h
  · rename_i hf; cases h; subst hf; exact f41_ok
  · cases h
theorem f19_ok : PureOK Try.prog 19 false g19 := by
  have hΓ := Γ19_ok
  refine pure_enc (n := 40) (rs := [.tmp 4, .tmp 5]) Try.func19 (by kernel_rfl) rfl (by kernel_rfl) (by kernel_rfl) ?_
  rintro ⟨r, l⟩ hz
  dsimp only at hz ⊢
  have hll := hz.v.l
  refine ⟨fun h => (by cases h), fun k hz0 => ?_⟩
  have e22 := g22_eq hz.v.l
  have h10 : ((1 : Int) != 0) = true := rfl
  have h00 : ((0 : Int) != 0) = false := rfl
  rw [start_frame (by simp)]; simp only [enumV, go_sem, emptyH]
  rcases vld_01 l with h | h
  case inr =>
    have hs : duR r l = .tup [.list [], i64 1] := by simp [duR, h]
    rw [h] at e22
    repeat (first
      | refine awp_seq ?_ | refine awp_block ?_ | refine awp_ret ?_ | refine awp_skip ?_ | refine awp_exit ?_ | refine awp_label ?_
      | refine then_normal ?_ | refine then_ret ?_ | refine then_exit ?_ | refine block_normal ?_ | refine block_ret ?_ | refine block_exit ?_ | refine block_out rfl ?_
      | (apply awp_reg hΓ; (focus (simp (disch := omega) only [go_sem, ↓reduceIte, decide_eq_true, decide_eq_false, if_pos, if_neg, wrap_in, maxLen, Γ19, e22, h10]; with_reducible rfl)))
      | (apply awp_regf mixedOK hΓ (by kernel_rfl); (focus (simp (disch := omega) only [go_sem, ↓reduceIte, decide_eq_true, decide_eq_false, if_pos, if_neg, wrap_in, maxLen, Γ19, e22, h10]; with_reducible rfl)); (focus (simp only [go_sem]; with_reducible rfl)))
      | (apply awp_regt mixedOK hΓ rfl; (focus kernel_rfl); (focus (simp (disch := omega) only [go_sem, ↓reduceIte, decide_eq_true, decide_eq_false, if_pos, if_neg, wrap_in, maxLen, Γ19, e22, h10]; with_reducible rfl)); (focus (simp only [go_sem]; with_reducible rfl)); (focus (simp (disch := omega) only [go_sem, ↓reduceIte, decide_eq_true, decide_eq_false, if_pos, if_neg, wrap_in, maxLen, Γ19, e22, h10]; with_reducible rfl)))
      | (apply awp_cond_t; (focus (simp (disch := omega) only [go_sem, ↓reduceIte, decide_eq_true, decide_eq_false, if_pos, if_neg, wrap_in, maxLen, Γ19, e22, h10]; done))) | (apply awp_cond_f; (focus (simp (disch := omega) only [go_sem, ↓reduceIte, decide_eq_true, decide_eq_false, if_pos, if_neg, wrap_in, maxLen, Γ19, e22, h10]; done)))
      | (apply ret_e; (focus (simp (disch := omega) only [go_sem, ↓reduceIte, decide_eq_true, decide_eq_false, if_pos, if_neg, wrap_in, maxLen, Γ19, e22, h10]; with_reducible rfl)); (focus (simp (disch := omega) only [go_sem, ↓reduceIte, decide_eq_true, decide_eq_false, if_pos, if_neg, wrap_in, maxLen, Γ19, e22, h10]; with_reducible rfl))) | (apply end_e; (focus (simp (disch := omega) only [go_sem, ↓reduceIte, decide_eq_true, decide_eq_false, if_pos, if_neg, wrap_in, maxLen, Γ19, e22, h10]; with_reducible rfl)); (focus (simp (disch := omega) only [go_sem, ↓reduceIte, decide_eq_true, decide_eq_false, if_pos, if_neg, wrap_in, maxLen, Γ19, e22, h10]; with_reducible rfl)))
      | rfl)
    rw [hs]
  have hs : duR r l = .tup [.list ((dues r l l).map eN), i64 0] := by simp [duR, h]
  rw [h] at e22
  repeat (first
    | refine awp_seq ?_ | refine awp_block ?_ | refine awp_ret ?_ | refine awp_skip ?_ | refine awp_exit ?_ | refine awp_label ?_
    | refine then_normal ?_ | refine then_ret ?_ | refine then_exit ?_ | refine block_normal ?_ | refine block_ret ?_ | refine block_exit ?_ | refine block_out rfl ?_
    | (apply awp_reg hΓ; (focus (simp (disch := omega) only [go_sem, ↓reduceIte, decide_eq_true, decide_eq_false, if_pos, if_neg, wrap_in, maxLen, Γ19, e22, h00]; with_reducible rfl)))
    | (apply awp_regf mixedOK hΓ (by kernel_rfl); (focus (simp (disch := omega) only [go_sem, ↓reduceIte, decide_eq_true, decide_eq_false, if_pos, if_neg, wrap_in, maxLen, Γ19, e22, h00]; with_reducible rfl)); (focus (simp only [go_sem]; with_reducible rfl)))
    | (apply awp_regt mixedOK hΓ rfl; (focus kernel_rfl); (focus (simp (disch := omega) only [go_sem, ↓reduceIte, decide_eq_true, decide_eq_false, if_pos, if_neg, wrap_in, maxLen, Γ19, e22, h00]; with_reducible rfl)); (focus (simp only [go_sem]; with_reducible rfl)); (focus (simp (disch := omega) only [go_sem, ↓reduceIte, decide_eq_true, decide_eq_false, if_pos, if_neg, wrap_in, maxLen, Γ19, e22, h00]; with_reducible rfl)))
    | (apply awp_cond_t; (focus (simp (disch := omega) only [go_sem, ↓reduceIte, decide_eq_true, decide_eq_false, if_pos, if_neg, wrap_in, maxLen, Γ19, e22, h00]; done))) | (apply awp_cond_f; (focus (simp (disch := omega) only [go_sem, ↓reduceIte, decide_eq_true, decide_eq_false, if_pos, if_neg, wrap_in, maxLen, Γ19, e22, h00]; done)))
    | (apply ret_e; (focus (simp (disch := omega) only [go_sem, ↓reduceIte, decide_eq_true, decide_eq_false, if_pos, if_neg, wrap_in, maxLen, Γ19, e22, h00]; with_reducible rfl)); (focus (simp (disch := omega) only [go_sem, ↓reduceIte, decide_eq_true, decide_eq_false, if_pos, if_neg, wrap_in, maxLen, Γ19, e22, h00]; with_reducible rfl))) | (apply end_e; (focus (simp (disch := omega) only [go_sem, ↓reduceIte, decide_eq_true, decide_eq_false, if_pos, if_neg, wrap_in, maxLen, Γ19, e22, h00]; with_reducible rfl)); (focus (simp (disch := omega) only [go_sem, ↓reduceIte, decide_eq_true, decide_eq_false, if_pos, if_neg, wrap_in, maxLen, Γ19, e22, h00]; with_reducible rfl)))
    | rfl)
  refine awp_loop_at (X := Nat) (fun i => (frame 40 [(1, .data (.list (l.map eN))), (2, .ptr 0 0), (6, .row 8 (dues r l (l.take i)).length), (7, .data (i64 i))]))
    (fun i => [(0, .box [.data (.list (r.rvs.map eRw)), .data (.list (r.pks.map ePk)), .data (.list (r.dcs.map eDc)), .data (.list (r.dps.map eDp))]), (8, .row 39 3 ((dues r l (l.take i)).map eN))]) 9
    (fun i => i ≤ l.length) (fun i => l.length - i) 0 (Nat.zero_le _) ((Weak.nilrowF (i := 6) 39 (sz := 3) (by omega) (by omega) rfl).trans (Weak.ofF (by omega) (by simp [ConvF, lookV, Conv, ints, dues]) (by (simp (disch := omega) only [TabSub, look, if_pos, if_neg, Obj.refsOK, refsOKs, AV.refsOK, decide_eq_true_eq, Bool.and_true, Bool.and_self, dues] ) <;> ((repeat' apply And.intro) <;> first | exact True.intro | omega | (simp; done) | rfl)) (by simp (disch := omega) only [refsF, AV.refsOK, Bool.and_true, Bool.and_self, decide_eq_true_eq, Bool.true_and, Bool.and_eq_true]; try omega))) ?_
  intro i hi
  have htl : (dues r l (l.take i)).length ≤ i := Nat.le_trans (dues_len _ _ _) (by rw [List.length_take]; omega)
  by_cases hi2 : i < l.length
  · have hnx := dues_succ (r := r) (l := l) hi2
    generalize hacc : dues r l (l.take i) = acc at hnx htl
    generalize hnn : dues r l (l.take (i + 1)) = nn at hnx
    generalize hy : l[i] = y at hnx
    have e41 := g41_eq (q := y.q) (s := y.s) hz
    unfold open1 at hnx
    generalize ansN r l y.q y.s r.dcs.length = ans at hnx e41
    cases ans with
    | cons a ans =>
      have h0 : (((ans.length + 1 : Nat) : Int) == 0) = false := by simp; omega
      have hn : nn = acc := by rw [hnx]; simp
      repeat (first
        | refine awp_seq ?_ | refine awp_block ?_ | refine awp_ret ?_ | refine awp_skip ?_ | refine awp_exit ?_ | refine awp_label ?_
        | refine then_normal ?_ | refine then_ret ?_ | refine then_exit ?_ | refine block_normal ?_ | refine block_ret ?_ | refine block_exit ?_ | refine block_out rfl ?_
        | (apply awp_reg hΓ; (focus (simp (disch := omega) only [go_sem, ↓reduceIte, decide_eq_true, decide_eq_false, if_pos, if_neg, wrap_in, maxLen, eN, hy, Γ19, e41, h0, List.length_map]; with_reducible rfl)))
        | (apply awp_regf mixedOK hΓ (by kernel_rfl); (focus (simp (disch := omega) only [go_sem, ↓reduceIte, decide_eq_true, decide_eq_false, if_pos, if_neg, wrap_in, maxLen, eN, hy, Γ19, e41, h0, List.length_map]; with_reducible rfl)); (focus (simp only [go_sem]; with_reducible rfl)))
        | (apply awp_regt mixedOK hΓ rfl; (focus kernel_rfl); (focus (simp (disch := omega) only [go_sem, ↓reduceIte, decide_eq_true, decide_eq_false, if_pos, if_neg, wrap_in, maxLen, eN, hy, Γ19, e41, h0, List.length_map]; with_reducible rfl)); (focus (simp only [go_sem]; with_reducible rfl)); (focus (simp (disch := omega) only [go_sem, ↓reduceIte, decide_eq_true, decide_eq_false, if_pos, if_neg, wrap_in, maxLen, eN, hy, Γ19, e41, h0, List.length_map]; with_reducible rfl)))
        | (apply awp_cond_t; (focus (simp (disch := omega) only [go_sem, ↓reduceIte, decide_eq_true, decide_eq_false, if_pos, if_neg, wrap_in, maxLen, eN, hy, Γ19, e41, h0, List.length_map]; done))) | (apply awp_cond_f; (focus (simp (disch := omega) only [go_sem, ↓reduceIte, decide_eq_true, decide_eq_false, if_pos, if_neg, wrap_in, maxLen, eN, hy, Γ19, e41, h0, List.length_map]; done)))
        | (apply ret_e; (focus (simp (disch := omega) only [go_sem, ↓reduceIte, decide_eq_true, decide_eq_false, if_pos, if_neg, wrap_in, maxLen, eN, hy, Γ19, e41, h0, List.length_map]; with_reducible rfl)); (focus (simp (disch := omega) only [go_sem, ↓reduceIte, decide_eq_true, decide_eq_false, if_pos, if_neg, wrap_in, maxLen, eN, hy, Γ19, e41, h0, List.length_map]; with_reducible rfl))) | (apply end_e; (focus (simp (disch := omega) only [go_sem, ↓reduceIte, decide_eq_true, decide_eq_false, if_pos, if_neg, wrap_in, maxLen, eN, hy, Γ19, e41, h0, List.length_map]; with_reducible rfl)); (focus (simp (disch := omega) only [go_sem, ↓reduceIte, decide_eq_true, decide_eq_false, if_pos, if_neg, wrap_in, maxLen, eN, hy, Γ19, e41, h0, List.length_map]; with_reducible rfl)))
        | rfl)
      exact ⟨i + 1, by omega, by omega, Weak.ofF (by omega) (by simp [ConvF, lookV, Conv, ints, hnn, hn]) (by (simp (disch := omega) only [TabSub, look, if_pos, if_neg, Obj.refsOK, refsOKs, AV.refsOK, decide_eq_true_eq, Bool.and_true, Bool.and_self, hnn, hn] ) <;> ((repeat' apply And.intro) <;> first | exact True.intro | omega | (simp; done) | rfl)) (by simp (disch := omega) only [refsF, AV.refsOK, Bool.and_true, Bool.and_self, decide_eq_true_eq, Bool.true_and, Bool.and_eq_true]; try omega)⟩
    | nil =>
      have hn : nn = acc ++ [y] := by rw [hnx]; simp
      have hm : acc.map eN ++ [.agg [.str y.q, .str y.s, .str y.d]] = nn.map eN := by rw [hn]; simp [eN]
      have hl : nn.length = acc.length + 1 := by rw [hn]; simp
      have e41 : g41 [.agg [.list (r.rvs.map eRw), .list (r.pks.map ePk), .list (r.dcs.map eDc), .list (r.dps.map eDp)], .list (l.map eN), .str y.q, .str y.s] = some (.list []) := e41
      have h0 : (((0 : Nat) : Int) == 0) = true := rfl
      repeat (first
        | refine awp_seq ?_ | refine awp_block ?_ | refine awp_ret ?_ | refine awp_skip ?_ | refine awp_exit ?_ | refine awp_label ?_
        | refine then_normal ?_ | refine then_ret ?_ | refine then_exit ?_ | refine block_normal ?_ | refine block_ret ?_ | refine block_exit ?_ | refine block_out rfl ?_
        | (apply awp_reg hΓ; (focus (simp (disch := omega) only [go_sem, ↓reduceIte, ↓map_lit, ↓List.map_cons, ↓List.map_nil, decide_eq_true, decide_eq_false, if_pos, if_neg, wrap_in, maxLen, eN, hy, Γ19, e41, h0]; with_reducible rfl)))
        | (apply awp_regf mixedOK hΓ (by kernel_rfl); (focus (simp (disch := omega) only [go_sem, ↓reduceIte, ↓map_lit, ↓List.map_cons, ↓List.map_nil, decide_eq_true, decide_eq_false, if_pos, if_neg, wrap_in, maxLen, eN, hy, Γ19, e41, h0]; with_reducible rfl)); (focus (simp only [go_sem]; with_reducible rfl)))
        | (apply awp_regt mixedOK hΓ rfl; (focus kernel_rfl); (focus (simp (disch := omega) only [go_sem, ↓reduceIte, ↓map_lit, ↓List.map_cons, ↓List.map_nil, decide_eq_true, decide_eq_false, if_pos, if_neg, wrap_in, maxLen, eN, hy, Γ19, e41, h0]; with_reducible rfl)); (focus (simp only [go_sem]; with_reducible rfl)); (focus (simp (disch := omega) only [go_sem, ↓reduceIte, ↓map_lit, ↓List.map_cons, ↓List.map_nil, decide_eq_true, decide_eq_false, if_pos, if_neg, wrap_in, maxLen, eN, hy, Γ19, e41, h0]; with_reducible rfl)))
        | (apply awp_cond_t; (focus (simp (disch := omega) only [go_sem, ↓reduceIte, ↓map_lit, ↓List.map_cons, ↓List.map_nil, decide_eq_true, decide_eq_false, if_pos, if_neg, wrap_in, maxLen, eN, hy, Γ19, e41, h0]; done))) | (apply awp_cond_f; (focus (simp (disch := omega) only [go_sem, ↓reduceIte, ↓map_lit, ↓List.map_cons, ↓List.map_nil, decide_eq_true, decide_eq_false, if_pos, if_neg, wrap_in, maxLen, eN, hy, Γ19, e41, h0]; done)))
        | (apply ret_e; (focus (simp (disch := omega) only [go_sem, ↓reduceIte, ↓map_lit, ↓List.map_cons, ↓List.map_nil, decide_eq_true, decide_eq_false, if_pos, if_neg, wrap_in, maxLen, eN, hy, Γ19, e41, h0]; with_reducible rfl)); (focus (simp (disch := omega) only [go_sem, ↓reduceIte, ↓map_lit, ↓List.map_cons, ↓List.map_nil, decide_eq_true, decide_eq_false, if_pos, if_neg, wrap_in, maxLen, eN, hy, Γ19, e41, h0]; with_reducible rfl))) | (apply end_e; (focus (simp (disch := omega) only [go_sem, ↓reduceIte, ↓map_lit, ↓List.map_cons, ↓List.map_nil, decide_eq_true, decide_eq_false, if_pos, if_neg, wrap_in, maxLen, eN, hy, Γ19, e41, h0]; with_reducible rfl)); (focus (simp (disch := omega) only [go_sem, ↓reduceIte, ↓map_lit, ↓List.map_cons, ↓List.map_nil, decide_eq_true, decide_eq_false, if_pos, if_neg, wrap_in, maxLen, eN, hy, Γ19, e41, h0]; with_reducible rfl)))
        | rfl)
      exact ⟨i + 1, by omega, by omega, Weak.ofF (by omega) (by simp [ConvF, lookV, Conv, ints, hnn, hl, hm]) (by (simp (disch := omega) only [TabSub, look, if_pos, if_neg, Obj.refsOK, refsOKs, AV.refsOK, decide_eq_true_eq, Bool.and_true, Bool.and_self, hnn, hl, hm] ) <;> ((repeat' apply And.intro) <;> first | exact True.intro | omega | (simp; done) | rfl)) (by simp (disch := omega) only [refsF, AV.refsOK, Bool.and_true, Bool.and_self, decide_eq_true_eq, Bool.true_and, Bool.and_eq_true]; try omega)⟩
  have hi3 : i = l.length := by omega
  subst hi3
  rw [List.take_length] at htl ⊢
  repeat (first
    | refine awp_seq ?_ | refine awp_block ?_ | refine awp_ret ?_ | refine awp_skip ?_ | refine awp_exit ?_ | refine awp_label ?_
    | refine then_normal ?_ | refine then_ret ?_ | refine then_exit ?_ | refine block_normal ?_ | refine block_ret ?_ | refine block_exit ?_ | refine block_out rfl ?_
    | (apply awp_reg hΓ; (focus (simp (disch := omega) only [go_sem, ↓reduceIte, decide_eq_true, decide_eq_false, if_pos, if_neg, wrap_in, maxLen]; with_reducible rfl)))
    | (apply awp_regf mixedOK hΓ (by kernel_rfl); (focus (simp (disch := omega) only [go_sem, ↓reduceIte, decide_eq_true, decide_eq_false, if_pos, if_neg, wrap_in, maxLen]; with_reducible rfl)); (focus (simp only [go_sem]; with_reducible rfl)))
    | (apply awp_regt mixedOK hΓ rfl; (focus kernel_rfl); (focus (simp (disch := omega) only [go_sem, ↓reduceIte, decide_eq_true, decide_eq_false, if_pos, if_neg, wrap_in, maxLen]; with_reducible rfl)); (focus (simp only [go_sem]; with_reducible rfl)); (focus (simp (disch := omega) only [go_sem, ↓reduceIte, decide_eq_true, decide_eq_false, if_pos, if_neg, wrap_in, maxLen]; with_reducible rfl)))
    | (apply awp_cond_t; (focus (simp (disch := omega) only [go_sem, ↓reduceIte, decide_eq_true, decide_eq_false, if_pos, if_neg, wrap_in, maxLen]; done))) | (apply awp_cond_f; (focus (simp (disch := omega) only [go_sem, ↓reduceIte, decide_eq_true, decide_eq_false, if_pos, if_neg, wrap_in, maxLen]; done)))
    | (apply ret_e; (focus (simp (disch := omega) only [go_sem, ↓reduceIte, decide_eq_true, decide_eq_false, if_pos, if_neg, wrap_in, maxLen]; with_reducible rfl)); (focus (simp (disch := omega) only [go_sem, ↓reduceIte, decide_eq_true, decide_eq_false, if_pos, if_neg, wrap_in, maxLen]; with_reducible rfl))) | (apply end_e; (focus (simp (disch := omega) only [go_sem, ↓reduceIte, decide_eq_true, decide_eq_false, if_pos, if_neg, wrap_in, maxLen]; with_reducible rfl)); (focus (simp (disch := omega) only [go_sem, ↓reduceIte, decide_eq_true, decide_eq_false, if_pos, if_neg, wrap_in, maxLen]; with_reducible rfl)))
    | rfl)
  rw [hs]
end Go.Ab
