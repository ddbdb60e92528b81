/-
  One text of the proof (own work): contracts of functions of the program, by the abstract machine.
-/
import Derived.Test.YtmcgfohokniepaaU8
set_option linter.unusedVariables false
set_option linter.unusedSimpArgs false
namespace Go.Ab
open Go Go.RowKit Go.Proofs
set_option maxRecDepth 4000
set_option maxHeartbeats 4000000

/-! ### Answers -/
def hit (r : Rev) (l : List Now) (q s : List UInt8) (d : Dc) : Bool := (d.q == q) && (d.s == s) && (stat r l d == 1)
def ansStep (r : Rev) (l : List Now) (q s : List UInt8) (acc : List (List UInt8)) (d : Dc) : List (List UInt8) := if hit r l q s d then (if acc.any (· == d.ans) then acc else acc ++ [d.ans]) else acc
def ansN (r : Rev) (l : List Now) (q s : List UInt8) (i : Nat) : List (List UInt8) := (r.dcs.take i).foldl (ansStep r l q s) []
theorem ansN_succ {r : Rev} {l : List Now} {q s : List UInt8} {i : Nat} (h : i < r.dcs.length) : ansN r l q s (i + 1) = ansStep r l q s (ansN r l q s i) r.dcs[i] := by
  unfold ansN
  rw [List.take_add_one, List.getElem?_eq_getElem h, List.foldl_append]
  rfl
theorem ansStep_len (r : Rev) (l : List Now) (q s : List UInt8) (acc : List (List UInt8)) (d : Dc) : (ansStep r l q s acc d).length ≤ acc.length + 1 := by
  unfold ansStep
  split
  · split
    · omega
    · simp
  · omega
theorem ansN_len (r : Rev) (l : List Now) (q s : List UInt8) : ∀ i, i ≤ r.dcs.length → (ansN r l q s i).length ≤ i
  | 0, _ => Nat.le_refl _
  | i + 1, h => by
    rw [ansN_succ (by omega)]
    have := ansN_len r l q s i (by omega)
    have := ansStep_len r l q s (ansN r l q s i) r.dcs[i]
    omega
noncomputable def g41 : List D → Option D := encSpec (fun x : Rev × List Now × List UInt8 × List UInt8 => [eR x.1, .list (x.2.1.map eN), .str x.2.2.1, .str x.2.2.2]) (fun x => SzA x.1 x.2.1) (fun x => .list ((ansN x.1 x.2.1 x.2.2.1 x.2.2.2 x.1.dcs.length).map .str))
theorem g41_eq {r : Rev} {l : List Now} {q s : List UInt8} (h : SzA r l) : g41 [.agg [.list (r.rvs.map eRw), .list (r.pks.map ePk), .list (r.dcs.map eDc), .list (r.dps.map eDp)], .list (l.map eN), .str q, .str s] = some (.list ((ansN r l q s r.dcs.length).map .str)) := encSpec_eq (x := (r, l, q, s)) h fun y hy => by
  obtain ⟨y1, y2, y3, y4⟩ := y
  simp only [List.cons.injEq, and_true, D.list.injEq, D.str.injEq] at hy
  rw [eR_inj _ _ hy.1, map_inj eN_inj hy.2.1, hy.2.2.1, hy.2.2.2]
noncomputable def Γ41 : FuncId → Option CSpec := fun f => if f = 40 then some (.pure true g40) else none
theorem Γ41_ok : ∀ f s, Γ41 f = some s → SpecOK Try.prog f s := by
  intro f s h
  unfold Γ41 at h
  split at h
  · rename_i hf; cases h; subst hf; exact f40_ok
  · cases h
theorem f41_ok : PureOK Try.prog 41 false g41 := by
  have hΓ := Γ41_ok
  refine pure_enc (n := 67) (rs := [.tmp 8]) Try.func41 (by kernel_rfl) rfl (by kernel_rfl) (by kernel_rfl) ?_
  rintro ⟨r, l, q, s⟩ hz
  dsimp only at hz ⊢
  have hdl := hz.v.r.dcs
  refine ⟨fun h => (by cases h), fun k hz0 => ?_⟩
  rw [start_frame (by simp)]; simp only [enumV, go_sem, emptyH]
  repeat (first
    | refine awp_seq ?_ | refine awp_block ?_ | refine awp_ret ?_ | refine awp_skip ?_ | refine awp_exit ?_ | refine awp_label ?_
    | refine then_normal ?_ | refine then_ret ?_ | refine then_exit ?_ | refine block_normal ?_ | refine block_ret ?_ | refine block_exit ?_ | refine block_out rfl ?_
    | (apply awp_reg hΓ; (focus (simp (disch := omega) only [go_sem, ↓reduceIte, decide_eq_true, decide_eq_false, if_pos, if_neg, wrap_in, maxLen]; with_reducible rfl)))
    | (apply awp_regf mixedOK hΓ (by kernel_rfl); (focus (simp (disch := omega) only [go_sem, ↓reduceIte, decide_eq_true, decide_eq_false, if_pos, if_neg, wrap_in, maxLen]; with_reducible rfl)); (focus (simp only [go_sem]; with_reducible rfl)))
    | (apply awp_regt mixedOK hΓ rfl; (focus kernel_rfl); (focus (simp (disch := omega) only [go_sem, ↓reduceIte, decide_eq_true, decide_eq_false, if_pos, if_neg, wrap_in, maxLen]; with_reducible rfl)); (focus (simp only [go_sem]; with_reducible rfl)); (focus (simp (disch := omega) only [go_sem, ↓reduceIte, decide_eq_true, decide_eq_false, if_pos, if_neg, wrap_in, maxLen]; with_reducible rfl)))
    | (apply awp_cond_t; (focus (simp (disch := omega) only [go_sem, ↓reduceIte, decide_eq_true, decide_eq_false, if_pos, if_neg, wrap_in, maxLen]; done))) | (apply awp_cond_f; (focus (simp (disch := omega) only [go_sem, ↓reduceIte, decide_eq_true, decide_eq_false, if_pos, if_neg, wrap_in, maxLen]; done)))
    | (apply ret_e; (focus (simp (disch := omega) only [go_sem, ↓reduceIte, decide_eq_true, decide_eq_false, if_pos, if_neg, wrap_in, maxLen]; with_reducible rfl)); (focus (simp (disch := omega) only [go_sem, ↓reduceIte, decide_eq_true, decide_eq_false, if_pos, if_neg, wrap_in, maxLen]; with_reducible rfl))) | (apply end_e; (focus (simp (disch := omega) only [go_sem, ↓reduceIte, decide_eq_true, decide_eq_false, if_pos, if_neg, wrap_in, maxLen]; with_reducible rfl)); (focus (simp (disch := omega) only [go_sem, ↓reduceIte, decide_eq_true, decide_eq_false, if_pos, if_neg, wrap_in, maxLen]; with_reducible rfl)))
    | rfl)
  refine awp_loop_at (X := Nat) (fun i => (frame 67 [(1, .data (.list (l.map eN))), (2, .data (.str q)), (3, .data (.str s)), (4, .ptr 0 0), (9, .row 4 (ansN r l q s i).length), (10, .data (i64 i))]))
    (fun i => [(0, .box [.data (.list (r.rvs.map eRw)), .data (.list (r.pks.map ePk)), .data (.list (r.dcs.map eDc)), .data (.list (r.dps.map eDp))]), (4, .row 9 1 ((ansN r l q s i).map .str))]) 5
    (fun i => i ≤ r.dcs.length) (fun i => r.dcs.length - i) 0 (Nat.zero_le _) ((Weak.nilrowF (i := 9) 9 (sz := 1) (by omega) (by omega) rfl).trans (Weak.ofF (by omega) (by simp [ConvF, lookV, Conv, ints, ansN]) (by (simp (disch := omega) only [TabSub, look, if_pos, if_neg, Obj.refsOK, refsOKs, AV.refsOK, decide_eq_true_eq, Bool.and_true, Bool.and_self, ansN] ) <;> ((repeat' apply And.intro) <;> first | exact True.intro | omega | (simp; done) | rfl)) (by simp (disch := omega) only [refsF, AV.refsOK, Bool.and_true, Bool.and_self, decide_eq_true_eq, Bool.true_and, Bool.and_eq_true]; try omega))) ?_
  intro i hi
  have hal := ansN_len r l q s i hi
  by_cases hi2 : i < r.dcs.length
  · have hq := hz.q _ (List.getElem_mem hi2)
    have hnx := ansN_succ (l := l) (q := q) (s := s) hi2
    generalize hy : r.dcs[i] = y at hq hnx
    have e40 := g40_eq hz hq
    generalize hacc : ansN r l q s i = acc at hnx hal
    cases hx1 : (y.q == q) with
    | false =>
      have hx1' : (y.q != q) = true := by simp [bne, hx1]
      have hn : ansN r l q s (i + 1) = acc := by rw [hnx]; simp [ansStep, hit, hx1]
      repeat (first
        | refine awp_seq ?_ | refine awp_block ?_ | refine awp_ret ?_ | refine awp_skip ?_ | refine awp_exit ?_ | refine awp_label ?_
        | refine then_normal ?_ | refine then_ret ?_ | refine then_exit ?_ | refine block_normal ?_ | refine block_ret ?_ | refine block_exit ?_ | refine block_out rfl ?_
        | (apply awp_reg hΓ; (focus (simp (disch := omega) only [go_sem, ↓reduceIte, decide_eq_true, decide_eq_false, if_pos, if_neg, wrap_in, maxLen, eDc, hy, hx1, hx1']; with_reducible rfl)))
        | (apply awp_regf mixedOK hΓ (by kernel_rfl); (focus (simp (disch := omega) only [go_sem, ↓reduceIte, decide_eq_true, decide_eq_false, if_pos, if_neg, wrap_in, maxLen, eDc, hy, hx1, hx1']; with_reducible rfl)); (focus (simp only [go_sem]; with_reducible rfl)))
        | (apply awp_regt mixedOK hΓ rfl; (focus kernel_rfl); (focus (simp (disch := omega) only [go_sem, ↓reduceIte, decide_eq_true, decide_eq_false, if_pos, if_neg, wrap_in, maxLen, eDc, hy, hx1, hx1']; with_reducible rfl)); (focus (simp only [go_sem]; with_reducible rfl)); (focus (simp (disch := omega) only [go_sem, ↓reduceIte, decide_eq_true, decide_eq_false, if_pos, if_neg, wrap_in, maxLen, eDc, hy, hx1, hx1']; with_reducible rfl)))
        | (apply awp_cond_t; (focus (simp (disch := omega) only [go_sem, ↓reduceIte, decide_eq_true, decide_eq_false, if_pos, if_neg, wrap_in, maxLen, eDc, hy, hx1, hx1']; done))) | (apply awp_cond_f; (focus (simp (disch := omega) only [go_sem, ↓reduceIte, decide_eq_true, decide_eq_false, if_pos, if_neg, wrap_in, maxLen, eDc, hy, hx1, hx1']; done)))
        | (apply ret_e; (focus (simp (disch := omega) only [go_sem, ↓reduceIte, decide_eq_true, decide_eq_false, if_pos, if_neg, wrap_in, maxLen, eDc, hy, hx1, hx1']; with_reducible rfl)); (focus (simp (disch := omega) only [go_sem, ↓reduceIte, decide_eq_true, decide_eq_false, if_pos, if_neg, wrap_in, maxLen, eDc, hy, hx1, hx1']; with_reducible rfl))) | (apply end_e; (focus (simp (disch := omega) only [go_sem, ↓reduceIte, decide_eq_true, decide_eq_false, if_pos, if_neg, wrap_in, maxLen, eDc, hy, hx1, hx1']; with_reducible rfl)); (focus (simp (disch := omega) only [go_sem, ↓reduceIte, decide_eq_true, decide_eq_false, if_pos, if_neg, wrap_in, maxLen, eDc, hy, hx1, hx1']; with_reducible rfl)))
        | rfl)
      exact ⟨i + 1, by omega, by omega, Weak.ofF (by omega) (by simp [ConvF, lookV, Conv, ints, hn]) (by (simp (disch := omega) only [TabSub, look, if_pos, if_neg, Obj.refsOK, refsOKs, AV.refsOK, decide_eq_true_eq, Bool.and_true, Bool.and_self, hn] ) <;> ((repeat' apply And.intro) <;> first | exact True.intro | omega | (simp; done) | rfl)) (by simp (disch := omega) only [refsF, AV.refsOK, Bool.and_true, Bool.and_self, decide_eq_true_eq, Bool.true_and, Bool.and_eq_true]; try omega)⟩
    | true =>
    have hx1' : (y.q != q) = false := by simp [bne, hx1]
    cases hx2 : (y.s == s) with
    | false =>
      have hx2' : (y.s != s) = true := by simp [bne, hx2]
      have hn : ansN r l q s (i + 1) = acc := by rw [hnx]; simp [ansStep, hit, hx2]
      repeat (first
        | refine awp_seq ?_ | refine awp_block ?_ | refine awp_ret ?_ | refine awp_skip ?_ | refine awp_exit ?_ | refine awp_label ?_
        | refine then_normal ?_ | refine then_ret ?_ | refine then_exit ?_ | refine block_normal ?_ | refine block_ret ?_ | refine block_exit ?_ | refine block_out rfl ?_
        | (apply awp_reg hΓ; (focus (simp (disch := omega) only [go_sem, ↓reduceIte, decide_eq_true, decide_eq_false, if_pos, if_neg, wrap_in, maxLen, eDc, hy, hx1, hx1', hx2, hx2']; with_reducible rfl)))
        | (apply awp_regf mixedOK hΓ (by kernel_rfl); (focus (simp (disch := omega) only [go_sem, ↓reduceIte, decide_eq_true, decide_eq_false, if_pos, if_neg, wrap_in, maxLen, eDc, hy, hx1, hx1', hx2, hx2']; with_reducible rfl)); (focus (simp only [go_sem]; with_reducible rfl)))
        | (apply awp_regt mixedOK hΓ rfl; (focus kernel_rfl); (focus (simp (disch := omega) only [go_sem, ↓reduceIte, decide_eq_true, decide_eq_false, if_pos, if_neg, wrap_in, maxLen, eDc, hy, hx1, hx1', hx2, hx2']; with_reducible rfl)); (focus (simp only [go_sem]; with_reducible rfl)); (focus (simp (disch := omega) only [go_sem, ↓reduceIte, decide_eq_true, decide_eq_false, if_pos, if_neg, wrap_in, maxLen, eDc, hy, hx1, hx1', hx2, hx2']; with_reducible rfl)))
        | (apply awp_cond_t; (focus (simp (disch := omega) only [go_sem, ↓reduceIte, decide_eq_true, decide_eq_false, if_pos, if_neg, wrap_in, maxLen, eDc, hy, hx1, hx1', hx2, hx2']; done))) | (apply awp_cond_f; (focus (simp (disch := omega) only [go_sem, ↓reduceIte, decide_eq_true, decide_eq_false, if_pos, if_neg, wrap_in, maxLen, eDc, hy, hx1, hx1', hx2, hx2']; done)))
        | (apply ret_e; (focus (simp (disch := omega) only [go_sem, ↓reduceIte, decide_eq_true, decide_eq_false, if_pos, if_neg, wrap_in, maxLen, eDc, hy, hx1, hx1', hx2, hx2']; with_reducible rfl)); (focus (simp (disch := omega) only [go_sem, ↓reduceIte, decide_eq_true, decide_eq_false, if_pos, if_neg, wrap_in, maxLen, eDc, hy, hx1, hx1', hx2, hx2']; with_reducible rfl))) | (apply end_e; (focus (simp (disch := omega) only [go_sem, ↓reduceIte, decide_eq_true, decide_eq_false, if_pos, if_neg, wrap_in, maxLen, eDc, hy, hx1, hx1', hx2, hx2']; with_reducible rfl)); (focus (simp (disch := omega) only [go_sem, ↓reduceIte, decide_eq_true, decide_eq_false, if_pos, if_neg, wrap_in, maxLen, eDc, hy, hx1, hx1', hx2, hx2']; with_reducible rfl)))
        | rfl)
      exact ⟨i + 1, by omega, by omega, Weak.ofF (by omega) (by simp [ConvF, lookV, Conv, ints, hn]) (by (simp (disch := omega) only [TabSub, look, if_pos, if_neg, Obj.refsOK, refsOKs, AV.refsOK, decide_eq_true_eq, Bool.and_true, Bool.and_self, hn] ) <;> ((repeat' apply And.intro) <;> first | exact True.intro | omega | (simp; done) | rfl)) (by simp (disch := omega) only [refsF, AV.refsOK, Bool.and_true, Bool.and_self, decide_eq_true_eq, Bool.true_and, Bool.and_eq_true]; try omega)⟩
    | true =>
    have hx2' : (y.s != s) = false := by simp [bne, hx2]
    cases hf : (stat r l y == 1) with
    | false =>
      have hf' : (stat r l y != 1) = true := by simp [bne, hf]
      have hn : ansN r l q s (i + 1) = acc := by rw [hnx]; simp [ansStep, hit, hf]
      repeat (first
        | refine awp_seq ?_ | refine awp_block ?_ | refine awp_ret ?_ | refine awp_skip ?_ | refine awp_exit ?_ | refine awp_label ?_
        | refine then_normal ?_ | refine then_ret ?_ | refine then_exit ?_ | refine block_normal ?_ | refine block_ret ?_ | refine block_exit ?_ | refine block_out rfl ?_
        | (apply awp_reg hΓ; (focus (simp (disch := omega) only [go_sem, ↓reduceIte, decide_eq_true, decide_eq_false, if_pos, if_neg, wrap_in, maxLen, eDc, hy, hx1, hx1', hx2, hx2', Γ41, e40, hf']; with_reducible rfl)))
        | (apply awp_regf mixedOK hΓ (by kernel_rfl); (focus (simp (disch := omega) only [go_sem, ↓reduceIte, decide_eq_true, decide_eq_false, if_pos, if_neg, wrap_in, maxLen, eDc, hy, hx1, hx1', hx2, hx2', Γ41, e40, hf']; with_reducible rfl)); (focus (simp only [go_sem]; with_reducible rfl)))
        | (apply awp_regt mixedOK hΓ rfl; (focus kernel_rfl); (focus (simp (disch := omega) only [go_sem, ↓reduceIte, decide_eq_true, decide_eq_false, if_pos, if_neg, wrap_in, maxLen, eDc, hy, hx1, hx1', hx2, hx2', Γ41, e40, hf']; with_reducible rfl)); (focus (simp only [go_sem]; with_reducible rfl)); (focus (simp (disch := omega) only [go_sem, ↓reduceIte, decide_eq_true, decide_eq_false, if_pos, if_neg, wrap_in, maxLen, eDc, hy, hx1, hx1', hx2, hx2', Γ41, e40, hf']; with_reducible rfl)))
        | (apply awp_cond_t; (focus (simp (disch := omega) only [go_sem, ↓reduceIte, decide_eq_true, decide_eq_false, if_pos, if_neg, wrap_in, maxLen, eDc, hy, hx1, hx1', hx2, hx2', Γ41, e40, hf']; done))) | (apply awp_cond_f; (focus (simp (disch := omega) only [go_sem, ↓reduceIte, decide_eq_true, decide_eq_false, if_pos, if_neg, wrap_in, maxLen, eDc, hy, hx1, hx1', hx2, hx2', Γ41, e40, hf']; done)))
        | (apply ret_e; (focus (simp (disch := omega) only [go_sem, ↓reduceIte, decide_eq_true, decide_eq_false, if_pos, if_neg, wrap_in, maxLen, eDc, hy, hx1, hx1', hx2, hx2', Γ41, e40, hf']; with_reducible rfl)); (focus (simp (disch := omega) only [go_sem, ↓reduceIte, decide_eq_true, decide_eq_false, if_pos, if_neg, wrap_in, maxLen, eDc, hy, hx1, hx1', hx2, hx2', Γ41, e40, hf']; with_reducible rfl))) | (apply end_e; (focus (simp (disch := omega) only [go_sem, ↓reduceIte, decide_eq_true, decide_eq_false, if_pos, if_neg, wrap_in, maxLen, eDc, hy, hx1, hx1', hx2, hx2', Γ41, e40, hf']; with_reducible rfl)); (focus (simp (disch := omega) only [go_sem, ↓reduceIte, decide_eq_true, decide_eq_false, if_pos, if_neg, wrap_in, maxLen, eDc, hy, hx1, hx1', hx2, hx2', Γ41, e40, hf']; with_reducible rfl)))
        | rfl)
      exact ⟨i + 1, by omega, by omega, Weak.ofF (by omega) (by simp [ConvF, lookV, Conv, ints, hn]) (by (simp (disch := omega) only [TabSub, look, if_pos, if_neg, Obj.refsOK, refsOKs, AV.refsOK, decide_eq_true_eq, Bool.and_true, Bool.and_self, hn] ) <;> ((repeat' apply And.intro) <;> first | exact True.intro | omega | (simp; done) | rfl)) (by simp (disch := omega) only [refsF, AV.refsOK, Bool.and_true, Bool.and_self, decide_eq_true_eq, Bool.true_and, Bool.and_eq_true]; try omega)⟩
    | true =>
    have hf' : (stat r l y != 1) = false := by simp [bne, hf]
    repeat (first
      | refine awp_seq ?_ | refine awp_block ?_ | refine awp_ret ?_ | refine awp_skip ?_ | refine awp_exit ?_ | refine awp_label ?_
      | refine then_normal ?_ | refine then_ret ?_ | refine then_exit ?_ | refine block_normal ?_ | refine block_ret ?_ | refine block_exit ?_ | refine block_out rfl ?_
      | (apply awp_reg hΓ; (focus (simp (disch := omega) only [go_sem, ↓reduceIte, decide_eq_true, decide_eq_false, if_pos, if_neg, wrap_in, maxLen, eDc, hy, hx1, hx1', hx2, hx2', Γ41, e40, hf']; with_reducible rfl)))
      | (apply awp_regf mixedOK hΓ (by kernel_rfl); (focus (simp (disch := omega) only [go_sem, ↓reduceIte, decide_eq_true, decide_eq_false, if_pos, if_neg, wrap_in, maxLen, eDc, hy, hx1, hx1', hx2, hx2', Γ41, e40, hf']; with_reducible rfl)); (focus (simp only [go_sem]; with_reducible rfl)))
      | (apply awp_regt mixedOK hΓ rfl; (focus kernel_rfl); (focus (simp (disch := omega) only [go_sem, ↓reduceIte, decide_eq_true, decide_eq_false, if_pos, if_neg, wrap_in, maxLen, eDc, hy, hx1, hx1', hx2, hx2', Γ41, e40, hf']; with_reducible rfl)); (focus (simp only [go_sem]; with_reducible rfl)); (focus (simp (disch := omega) only [go_sem, ↓reduceIte, decide_eq_true, decide_eq_false, if_pos, if_neg, wrap_in, maxLen, eDc, hy, hx1, hx1', hx2, hx2', Γ41, e40, hf']; with_reducible rfl)))
      | (apply awp_cond_t; (focus (simp (disch := omega) only [go_sem, ↓reduceIte, decide_eq_true, decide_eq_false, if_pos, if_neg, wrap_in, maxLen, eDc, hy, hx1, hx1', hx2, hx2', Γ41, e40, hf']; done))) | (apply awp_cond_f; (focus (simp (disch := omega) only [go_sem, ↓reduceIte, decide_eq_true, decide_eq_false, if_pos, if_neg, wrap_in, maxLen, eDc, hy, hx1, hx1', hx2, hx2', Γ41, e40, hf']; done)))
      | (apply ret_e; (focus (simp (disch := omega) only [go_sem, ↓reduceIte, decide_eq_true, decide_eq_false, if_pos, if_neg, wrap_in, maxLen, eDc, hy, hx1, hx1', hx2, hx2', Γ41, e40, hf']; with_reducible rfl)); (focus (simp (disch := omega) only [go_sem, ↓reduceIte, decide_eq_true, decide_eq_false, if_pos, if_neg, wrap_in, maxLen, eDc, hy, hx1, hx1', hx2, hx2', Γ41, e40, hf']; with_reducible rfl))) | (apply end_e; (focus (simp (disch := omega) only [go_sem, ↓reduceIte, decide_eq_true, decide_eq_false, if_pos, if_neg, wrap_in, maxLen, eDc, hy, hx1, hx1', hx2, hx2', Γ41, e40, hf']; with_reducible rfl)); (focus (simp (disch := omega) only [go_sem, ↓reduceIte, decide_eq_true, decide_eq_false, if_pos, if_neg, wrap_in, maxLen, eDc, hy, hx1, hx1', hx2, hx2', Γ41, e40, hf']; with_reducible rfl)))
      | rfl)
    refine awp_loop_at (X := Nat) (fun j => (frame 67 [(1, .data (.list (l.map eN))), (2, .data (.str q)), (3, .data (.str s)), (4, .ptr 0 0), (9, .row 4 acc.length), (10, .data (i64 i)), (11, .ptr 15 0), (12, .data (.bool ((acc.take j).any (· == y.ans)))), (13, .data (i64 j))]))
      (fun _ => [(0, .box [.data (.list (r.rvs.map eRw)), .data (.list (r.pks.map ePk)), .data (.list (r.dcs.map eDc)), .data (.list (r.dps.map eDp))]), (4, .row 9 1 (acc.map .str)), (15, .box [.data (.str y.id), .data (.str y.author), .data (.str y.q), .data (.str y.s), .data (.str y.ans), .data (.str y.dig), .data (i64 y.til), .data (.bool y.w), .data (.bool y.o), .data (.bool y.rp)])]) 36
      (fun j => j ≤ acc.length) (fun j => acc.length - j) 0 (Nat.zero_le _) (Weak.ofF (by omega) (by simp [ConvF, lookV, Conv, ints]) (by (simp (disch := omega) only [TabSub, look, if_pos, if_neg, Obj.refsOK, refsOKs, AV.refsOK, decide_eq_true_eq, Bool.and_true, Bool.and_self] ) <;> ((repeat' apply And.intro) <;> first | exact True.intro | omega | (simp; done) | rfl)) (by simp (disch := omega) only [refsF, AV.refsOK, Bool.and_true, Bool.and_self, decide_eq_true_eq, Bool.true_and, Bool.and_eq_true]; try omega)) ?_
    intro j hj
    by_cases hj2 : j < acc.length
    · have hnj : ((acc.take (j + 1)).any (· == y.ans)) = ((acc.take j).any (· == y.ans) || (acc[j] == y.ans)) := by
        rw [List.take_add_one, List.getElem?_eq_getElem hj2, List.any_append]
        simp
      generalize hw : acc[j] = w at hnj
      cases hb : (acc.take j).any (· == y.ans) with
      | true =>
        rw [hb] at hnj
        repeat (first
          | refine awp_seq ?_ | refine awp_block ?_ | refine awp_ret ?_ | refine awp_skip ?_ | refine awp_exit ?_ | refine awp_label ?_
          | refine then_normal ?_ | refine then_ret ?_ | refine then_exit ?_ | refine block_normal ?_ | refine block_ret ?_ | refine block_exit ?_ | refine block_out rfl ?_
          | (apply awp_reg hΓ; (focus (simp (disch := omega) only [go_sem, ↓reduceIte, decide_eq_true, decide_eq_false, if_pos, if_neg, wrap_in, maxLen, hw]; with_reducible rfl)))
          | (apply awp_regf mixedOK hΓ (by kernel_rfl); (focus (simp (disch := omega) only [go_sem, ↓reduceIte, decide_eq_true, decide_eq_false, if_pos, if_neg, wrap_in, maxLen, hw]; with_reducible rfl)); (focus (simp only [go_sem]; with_reducible rfl)))
          | (apply awp_regt mixedOK hΓ rfl; (focus kernel_rfl); (focus (simp (disch := omega) only [go_sem, ↓reduceIte, decide_eq_true, decide_eq_false, if_pos, if_neg, wrap_in, maxLen, hw]; with_reducible rfl)); (focus (simp only [go_sem]; with_reducible rfl)); (focus (simp (disch := omega) only [go_sem, ↓reduceIte, decide_eq_true, decide_eq_false, if_pos, if_neg, wrap_in, maxLen, hw]; with_reducible rfl)))
          | (apply awp_cond_t; (focus (simp (disch := omega) only [go_sem, ↓reduceIte, decide_eq_true, decide_eq_false, if_pos, if_neg, wrap_in, maxLen, hw]; done))) | (apply awp_cond_f; (focus (simp (disch := omega) only [go_sem, ↓reduceIte, decide_eq_true, decide_eq_false, if_pos, if_neg, wrap_in, maxLen, hw]; done)))
          | (apply ret_e; (focus (simp (disch := omega) only [go_sem, ↓reduceIte, decide_eq_true, decide_eq_false, if_pos, if_neg, wrap_in, maxLen, hw]; with_reducible rfl)); (focus (simp (disch := omega) only [go_sem, ↓reduceIte, decide_eq_true, decide_eq_false, if_pos, if_neg, wrap_in, maxLen, hw]; with_reducible rfl))) | (apply end_e; (focus (simp (disch := omega) only [go_sem, ↓reduceIte, decide_eq_true, decide_eq_false, if_pos, if_neg, wrap_in, maxLen, hw]; with_reducible rfl)); (focus (simp (disch := omega) only [go_sem, ↓reduceIte, decide_eq_true, decide_eq_false, if_pos, if_neg, wrap_in, maxLen, hw]; with_reducible rfl)))
          | rfl)
        exact ⟨j + 1, by omega, by omega, Weak.ofF (by omega) (by simp [ConvF, lookV, Conv, ints, hnj]) (by (simp (disch := omega) only [TabSub, look, if_pos, if_neg, Obj.refsOK, refsOKs, AV.refsOK, decide_eq_true_eq, Bool.and_true, Bool.and_self, hnj] ) <;> ((repeat' apply And.intro) <;> first | exact True.intro | omega | (simp; done) | rfl)) (by simp (disch := omega) only [refsF, AV.refsOK, Bool.and_true, Bool.and_self, decide_eq_true_eq, Bool.true_and, Bool.and_eq_true]; try omega)⟩
      | false =>
        rw [hb] at hnj
        cases hwa : (w == y.ans) with
        | true =>
          rw [hwa] at hnj
          repeat (first
            | refine awp_seq ?_ | refine awp_block ?_ | refine awp_ret ?_ | refine awp_skip ?_ | refine awp_exit ?_ | refine awp_label ?_
            | refine then_normal ?_ | refine then_ret ?_ | refine then_exit ?_ | refine block_normal ?_ | refine block_ret ?_ | refine block_exit ?_ | refine block_out rfl ?_
            | (apply awp_reg hΓ; (focus (simp (disch := omega) only [go_sem, ↓reduceIte, decide_eq_true, decide_eq_false, if_pos, if_neg, wrap_in, maxLen, hw, hwa]; with_reducible rfl)))
            | (apply awp_regf mixedOK hΓ (by kernel_rfl); (focus (simp (disch := omega) only [go_sem, ↓reduceIte, decide_eq_true, decide_eq_false, if_pos, if_neg, wrap_in, maxLen, hw, hwa]; with_reducible rfl)); (focus (simp only [go_sem]; with_reducible rfl)))
            | (apply awp_regt mixedOK hΓ rfl; (focus kernel_rfl); (focus (simp (disch := omega) only [go_sem, ↓reduceIte, decide_eq_true, decide_eq_false, if_pos, if_neg, wrap_in, maxLen, hw, hwa]; with_reducible rfl)); (focus (simp only [go_sem]; with_reducible rfl)); (focus (simp (disch := omega) only [go_sem, ↓reduceIte, decide_eq_true, decide_eq_false, if_pos, if_neg, wrap_in, maxLen, hw, hwa]; with_reducible rfl)))
            | (apply awp_cond_t; (focus (simp (disch := omega) only [go_sem, ↓reduceIte, decide_eq_true, decide_eq_false, if_pos, if_neg, wrap_in, maxLen, hw, hwa]; done))) | (apply awp_cond_f; (focus (simp (disch := omega) only [go_sem, ↓reduceIte, decide_eq_true, decide_eq_false, if_pos, if_neg, wrap_in, maxLen, hw, hwa]; done)))
            | (apply ret_e; (focus (simp (disch := omega) only [go_sem, ↓reduceIte, decide_eq_true, decide_eq_false, if_pos, if_neg, wrap_in, maxLen, hw, hwa]; with_reducible rfl)); (focus (simp (disch := omega) only [go_sem, ↓reduceIte, decide_eq_true, decide_eq_false, if_pos, if_neg, wrap_in, maxLen, hw, hwa]; with_reducible rfl))) | (apply end_e; (focus (simp (disch := omega) only [go_sem, ↓reduceIte, decide_eq_true, decide_eq_false, if_pos, if_neg, wrap_in, maxLen, hw, hwa]; with_reducible rfl)); (focus (simp (disch := omega) only [go_sem, ↓reduceIte, decide_eq_true, decide_eq_false, if_pos, if_neg, wrap_in, maxLen, hw, hwa]; with_reducible rfl)))
            | rfl)
          exact ⟨j + 1, by omega, by omega, Weak.ofF (by omega) (by simp [ConvF, lookV, Conv, ints, hnj]) (by (simp (disch := omega) only [TabSub, look, if_pos, if_neg, Obj.refsOK, refsOKs, AV.refsOK, decide_eq_true_eq, Bool.and_true, Bool.and_self, hnj] ) <;> ((repeat' apply And.intro) <;> first | exact True.intro | omega | (simp; done) | rfl)) (by simp (disch := omega) only [refsF, AV.refsOK, Bool.and_true, Bool.and_self, decide_eq_true_eq, Bool.true_and, Bool.and_eq_true]; try omega)⟩
        | false =>
          rw [hwa] at hnj
          repeat (first
            | refine awp_seq ?_ | refine awp_block ?_ | refine awp_ret ?_ | refine awp_skip ?_ | refine awp_exit ?_ | refine awp_label ?_
            | refine then_normal ?_ | refine then_ret ?_ | refine then_exit ?_ | refine block_normal ?_ | refine block_ret ?_ | refine block_exit ?_ | refine block_out rfl ?_
            | (apply awp_reg hΓ; (focus (simp (disch := omega) only [go_sem, ↓reduceIte, decide_eq_true, decide_eq_false, if_pos, if_neg, wrap_in, maxLen, hw, hwa]; with_reducible rfl)))
            | (apply awp_regf mixedOK hΓ (by kernel_rfl); (focus (simp (disch := omega) only [go_sem, ↓reduceIte, decide_eq_true, decide_eq_false, if_pos, if_neg, wrap_in, maxLen, hw, hwa]; with_reducible rfl)); (focus (simp only [go_sem]; with_reducible rfl)))
            | (apply awp_regt mixedOK hΓ rfl; (focus kernel_rfl); (focus (simp (disch := omega) only [go_sem, ↓reduceIte, decide_eq_true, decide_eq_false, if_pos, if_neg, wrap_in, maxLen, hw, hwa]; with_reducible rfl)); (focus (simp only [go_sem]; with_reducible rfl)); (focus (simp (disch := omega) only [go_sem, ↓reduceIte, decide_eq_true, decide_eq_false, if_pos, if_neg, wrap_in, maxLen, hw, hwa]; with_reducible rfl)))
            | (apply awp_cond_t; (focus (simp (disch := omega) only [go_sem, ↓reduceIte, decide_eq_true, decide_eq_false, if_pos, if_neg, wrap_in, maxLen, hw, hwa]; done))) | (apply awp_cond_f; (focus (simp (disch := omega) only [go_sem, ↓reduceIte, decide_eq_true, decide_eq_false, if_pos, if_neg, wrap_in, maxLen, hw, hwa]; done)))
            | (apply ret_e; (focus (simp (disch := omega) only [go_sem, ↓reduceIte, decide_eq_true, decide_eq_false, if_pos, if_neg, wrap_in, maxLen, hw, hwa]; with_reducible rfl)); (focus (simp (disch := omega) only [go_sem, ↓reduceIte, decide_eq_true, decide_eq_false, if_pos, if_neg, wrap_in, maxLen, hw, hwa]; with_reducible rfl))) | (apply end_e; (focus (simp (disch := omega) only [go_sem, ↓reduceIte, decide_eq_true, decide_eq_false, if_pos, if_neg, wrap_in, maxLen, hw, hwa]; with_reducible rfl)); (focus (simp (disch := omega) only [go_sem, ↓reduceIte, decide_eq_true, decide_eq_false, if_pos, if_neg, wrap_in, maxLen, hw, hwa]; with_reducible rfl)))
            | rfl)
          exact ⟨j + 1, by omega, by omega, Weak.ofF (by omega) (by simp [ConvF, lookV, Conv, ints, hnj]) (by (simp (disch := omega) only [TabSub, look, if_pos, if_neg, Obj.refsOK, refsOKs, AV.refsOK, decide_eq_true_eq, Bool.and_true, Bool.and_self, hnj] ) <;> ((repeat' apply And.intro) <;> first | exact True.intro | omega | (simp; done) | rfl)) (by simp (disch := omega) only [refsF, AV.refsOK, Bool.and_true, Bool.and_self, decide_eq_true_eq, Bool.true_and, Bool.and_eq_true]; try omega)⟩
    have hj3 : j = acc.length := by omega
    subst hj3
    rw [List.take_length]
    cases hb : acc.any (· == y.ans) with
    | true =>
      have hn : ansN r l q s (i + 1) = acc := by rw [hnx]; simp [ansStep, hit, hb]
      repeat (first
        | refine awp_seq ?_ | refine awp_block ?_ | refine awp_ret ?_ | refine awp_skip ?_ | refine awp_exit ?_ | refine awp_label ?_
        | refine then_normal ?_ | refine then_ret ?_ | refine then_exit ?_ | refine block_normal ?_ | refine block_ret ?_ | refine block_exit ?_ | refine block_out rfl ?_
        | (apply awp_reg hΓ; (focus (simp (disch := omega) only [go_sem, ↓reduceIte, decide_eq_true, decide_eq_false, if_pos, if_neg, wrap_in, maxLen, hb]; with_reducible rfl)))
        | (apply awp_regf mixedOK hΓ (by kernel_rfl); (focus (simp (disch := omega) only [go_sem, ↓reduceIte, decide_eq_true, decide_eq_false, if_pos, if_neg, wrap_in, maxLen, hb]; with_reducible rfl)); (focus (simp only [go_sem]; with_reducible rfl)))
        | (apply awp_regt mixedOK hΓ rfl; (focus kernel_rfl); (focus (simp (disch := omega) only [go_sem, ↓reduceIte, decide_eq_true, decide_eq_false, if_pos, if_neg, wrap_in, maxLen, hb]; with_reducible rfl)); (focus (simp only [go_sem]; with_reducible rfl)); (focus (simp (disch := omega) only [go_sem, ↓reduceIte, decide_eq_true, decide_eq_false, if_pos, if_neg, wrap_in, maxLen, hb]; with_reducible rfl)))
        | (apply awp_cond_t; (focus (simp (disch := omega) only [go_sem, ↓reduceIte, decide_eq_true, decide_eq_false, if_pos, if_neg, wrap_in, maxLen, hb]; done))) | (apply awp_cond_f; (focus (simp (disch := omega) only [go_sem, ↓reduceIte, decide_eq_true, decide_eq_false, if_pos, if_neg, wrap_in, maxLen, hb]; done)))
        | (apply ret_e; (focus (simp (disch := omega) only [go_sem, ↓reduceIte, decide_eq_true, decide_eq_false, if_pos, if_neg, wrap_in, maxLen, hb]; with_reducible rfl)); (focus (simp (disch := omega) only [go_sem, ↓reduceIte, decide_eq_true, decide_eq_false, if_pos, if_neg, wrap_in, maxLen, hb]; with_reducible rfl))) | (apply end_e; (focus (simp (disch := omega) only [go_sem, ↓reduceIte, decide_eq_true, decide_eq_false, if_pos, if_neg, wrap_in, maxLen, hb]; with_reducible rfl)); (focus (simp (disch := omega) only [go_sem, ↓reduceIte, decide_eq_true, decide_eq_false, if_pos, if_neg, wrap_in, maxLen, hb]; with_reducible rfl)))
        | rfl)
      exact ⟨i + 1, by omega, by omega, Weak.ofF (by omega) (by simp [ConvF, lookV, Conv, ints, hn]) (by (simp (disch := omega) only [TabSub, look, if_pos, if_neg, Obj.refsOK, refsOKs, AV.refsOK, decide_eq_true_eq, Bool.and_true, Bool.and_self, hn] ) <;> ((repeat' apply And.intro) <;> first | exact True.intro | omega | (simp; done) | rfl)) (by simp (disch := omega) only [refsF, AV.refsOK, Bool.and_true, Bool.and_self, decide_eq_true_eq, Bool.true_and, Bool.and_eq_true]; try omega)⟩
    | false =>
      have hn : ansN r l q s (i + 1) = acc ++ [y.ans] := by rw [hnx]; simp only [ansStep, hit, hx1, hx2, hf, hb]; rfl
      have hm : acc.map D.str ++ [.str y.ans] = (ansN r l q s (i + 1)).map D.str := by rw [hn]; simp
      have hl : (ansN r l q s (i + 1)).length = acc.length + 1 := by rw [hn]; simp
      repeat (first
        | refine awp_seq ?_ | refine awp_block ?_ | refine awp_ret ?_ | refine awp_skip ?_ | refine awp_exit ?_ | refine awp_label ?_
        | refine then_normal ?_ | refine then_ret ?_ | refine then_exit ?_ | refine block_normal ?_ | refine block_ret ?_ | refine block_exit ?_ | refine block_out rfl ?_
        | (apply awp_reg hΓ; (focus (simp (disch := omega) only [go_sem, ↓reduceIte, ↓map_lit, ↓List.map_cons, ↓List.map_nil, decide_eq_true, decide_eq_false, if_pos, if_neg, wrap_in, maxLen, hb]; with_reducible rfl)))
        | (apply awp_regf mixedOK hΓ (by kernel_rfl); (focus (simp (disch := omega) only [go_sem, ↓reduceIte, ↓map_lit, ↓List.map_cons, ↓List.map_nil, decide_eq_true, decide_eq_false, if_pos, if_neg, wrap_in, maxLen, hb]; with_reducible rfl)); (focus (simp only [go_sem]; with_reducible rfl)))
        | (apply awp_regt mixedOK hΓ rfl; (focus kernel_rfl); (focus (simp (disch := omega) only [go_sem, ↓reduceIte, ↓map_lit, ↓List.map_cons, ↓List.map_nil, decide_eq_true, decide_eq_false, if_pos, if_neg, wrap_in, maxLen, hb]; with_reducible rfl)); (focus (simp only [go_sem]; with_reducible rfl)); (focus (simp (disch := omega) only [go_sem, ↓reduceIte, ↓map_lit, ↓List.map_cons, ↓List.map_nil, decide_eq_true, decide_eq_false, if_pos, if_neg, wrap_in, maxLen, hb]; with_reducible rfl)))
        | (apply awp_cond_t; (focus (simp (disch := omega) only [go_sem, ↓reduceIte, ↓map_lit, ↓List.map_cons, ↓List.map_nil, decide_eq_true, decide_eq_false, if_pos, if_neg, wrap_in, maxLen, hb]; done))) | (apply awp_cond_f; (focus (simp (disch := omega) only [go_sem, ↓reduceIte, ↓map_lit, ↓List.map_cons, ↓List.map_nil, decide_eq_true, decide_eq_false, if_pos, if_neg, wrap_in, maxLen, hb]; done)))
        | (apply ret_e; (focus (simp (disch := omega) only [go_sem, ↓reduceIte, ↓map_lit, ↓List.map_cons, ↓List.map_nil, decide_eq_true, decide_eq_false, if_pos, if_neg, wrap_in, maxLen, hb]; with_reducible rfl)); (focus (simp (disch := omega) only [go_sem, ↓reduceIte, ↓map_lit, ↓List.map_cons, ↓List.map_nil, decide_eq_true, decide_eq_false, if_pos, if_neg, wrap_in, maxLen, hb]; with_reducible rfl))) | (apply end_e; (focus (simp (disch := omega) only [go_sem, ↓reduceIte, ↓map_lit, ↓List.map_cons, ↓List.map_nil, decide_eq_true, decide_eq_false, if_pos, if_neg, wrap_in, maxLen, hb]; with_reducible rfl)); (focus (simp (disch := omega) only [go_sem, ↓reduceIte, ↓map_lit, ↓List.map_cons, ↓List.map_nil, decide_eq_true, decide_eq_false, if_pos, if_neg, wrap_in, maxLen, hb]; with_reducible rfl)))
        | rfl)
      exact ⟨i + 1, by omega, by omega, Weak.ofF (by omega) (by simp [ConvF, lookV, Conv, ints, hl, hm]) (by (simp (disch := omega) only [TabSub, look, if_pos, if_neg, Obj.refsOK, refsOKs, AV.refsOK, decide_eq_true_eq, Bool.and_true, Bool.and_self, hl, hm] ) <;> ((repeat' apply And.intro) <;> first | exact True.intro | omega | (simp; done) | rfl)) (by simp (disch := omega) only [refsF, AV.refsOK, Bool.and_true, Bool.and_self, decide_eq_true_eq, Bool.true_and, Bool.and_eq_true]; try omega)⟩
  have hi3 : i = r.dcs.length := by omega
  subst hi3
  repeat (first
    | refine awp_seq ?_ | refine awp_block ?_ | refine awp_ret ?_ | refine awp_skip ?_ | refine awp_exit ?_ | refine awp_label ?_
    | refine then_normal ?_ | refine then_ret ?_ | refine then_exit ?_ | refine block_normal ?_ | refine block_ret ?_ | refine block_exit ?_ | refine block_out rfl ?_
    | (apply awp_reg hΓ; (focus (simp (disch := omega) only [go_sem, ↓reduceIte, decide_eq_true, decide_eq_false, if_pos, if_neg, wrap_in, maxLen]; with_reducible rfl)))
    | (apply awp_regf mixedOK hΓ (by kernel_rfl); (focus (simp (disch := omega) only [go_sem, ↓reduceIte, decide_eq_true, decide_eq_false, if_pos, if_neg, wrap_in, maxLen]; with_reducible rfl)); (focus (simp only [go_sem]; with_reducible rfl)))
    | (apply awp_regt mixedOK hΓ rfl; (focus kernel_rfl); (focus (simp (disch := omega) only [go_sem, ↓reduceIte, decide_eq_true, decide_eq_false, if_pos, if_neg, wrap_in, maxLen]; with_reducible rfl)); (focus (simp only [go_sem]; with_reducible rfl)); (focus (simp (disch := omega) only [go_sem, ↓reduceIte, decide_eq_true, decide_eq_false, if_pos, if_neg, wrap_in, maxLen]; with_reducible rfl)))
    | (apply awp_cond_t; (focus (simp (disch := omega) only [go_sem, ↓reduceIte, decide_eq_true, decide_eq_false, if_pos, if_neg, wrap_in, maxLen]; done))) | (apply awp_cond_f; (focus (simp (disch := omega) only [go_sem, ↓reduceIte, decide_eq_true, decide_eq_false, if_pos, if_neg, wrap_in, maxLen]; done)))
    | (apply ret_e; (focus (simp (disch := omega) only [go_sem, ↓reduceIte, decide_eq_true, decide_eq_false, if_pos, if_neg, wrap_in, maxLen]; with_reducible rfl)); (focus (simp (disch := omega) only [go_sem, ↓reduceIte, decide_eq_true, decide_eq_false, if_pos, if_neg, wrap_in, maxLen]; with_reducible rfl))) | (apply end_e; (focus (simp (disch := omega) only [go_sem, ↓reduceIte, decide_eq_true, decide_eq_false, if_pos, if_neg, wrap_in, maxLen]; with_reducible rfl)); (focus (simp (disch := omega) only [go_sem, ↓reduceIte, decide_eq_true, decide_eq_false, if_pos, if_neg, wrap_in, maxLen]; with_reducible rfl)))
    | rfl)
end Go.Ab
