/-
  One text of the proof (own work): contracts of functions of the program, by the abstract machine.
-/
import Derived.Test.YtmcgfohokniepaaU1
set_option linter.unusedVariables false
set_option linter.unusedSimpArgs false
namespace Go.Ab
open Go Go.RowKit Go.Proofs
set_option maxRecDepth 4000
set_option maxHeartbeats 4000000

/-! ### Valid evidence -/
def okPair (l : List Now) : Nat → Now → Bool
  | 0, _ => true
  | j + 1, x => match l[j]? with
    | some y => nLt y x
    | none => true
def okAt (l : List Now) (i : Nat) : Bool := match l[i]? with
  | some x => decide (x.d.length = 32) && okPair l i x
  | none => true
def vld (l : List Now) : Int := if l.length > 1024 then 1 else if (List.range l.length).all (okAt l) then 0 else 1
theorem vld_pre {l : List Now} {i : Nat} (hi : i < l.length) (hl : ¬ l.length > 1024) (h : okAt l i = false) : vld l = 1 := by
  have : (List.range l.length).all (okAt l) = false := List.all_eq_false.2 ⟨i, List.mem_range.2 hi, by simp [h]⟩
  simp [vld, hl, this]
theorem vld_all {l : List Now} (hl : ¬ l.length > 1024) (h : ∀ i, i < l.length → okAt l i = true) : vld l = 0 := by
  have : (List.range l.length).all (okAt l) = true := List.all_eq_true.2 fun i hi => h i (List.mem_range.1 hi)
  simp [vld, hl, this]
noncomputable def g22 : List D → Option D := encSpec (fun l : List Now => [.list (l.map eN)]) (fun l => l.length ≤ 1099511627776) (fun l => i64 (vld l))
theorem g22_eq {l : List Now} (h : l.length ≤ 1099511627776) : g22 [.list (l.map eN)] = some (.int .i64 (vld l)) := encSpec_eq (x := l) h fun y hy => by
  simp only [List.cons.injEq, D.list.injEq, and_true] at hy
  rw [map_inj eN_inj hy]
noncomputable def Γ22 : FuncId → Option CSpec := fun f => if f = 42 then some (.pure true g42) else none
theorem Γ22_ok : ∀ f s, Γ22 f = some s → SpecOK Try.prog f s := by
  intro f s h
  unfold Γ22 at h
  split at h
  · rename_i hf; cases h; subst hf; exact f42_ok
  · cases h
theorem f22_ok : PureOK Try.prog 22 true g22 := by
  have hΓ := Γ22_ok
  refine pure_enc (n := 34) (rs := [.tmp 2]) Try.func22 (by kernel_rfl) rfl (by kernel_rfl) (by kernel_rfl) ?_
  intro l hl
  refine ⟨fun _ => .int _ _, fun k hz0 => ?_⟩
  rw [start_frame (by simp)]; simp only [enumV, go_sem, emptyH]
  by_cases hb : l.length > 1024
  · have hv : vld l = 1 := by simp [vld, hb]
    repeat (first
      | refine awp_seq ?_ | refine awp_block ?_ | refine awp_ret ?_ | refine awp_skip ?_ | refine awp_exit ?_ | refine awp_label ?_
      | refine then_normal ?_ | refine then_ret ?_ | refine then_exit ?_ | refine block_normal ?_ | refine block_ret ?_ | refine block_exit ?_ | refine block_out rfl ?_
      | (apply awp_reg hΓ; (focus (simp (disch := omega) only [go_sem, ↓reduceIte, decide_eq_true, decide_eq_false, if_pos, if_neg, wrap_in, maxLen]; with_reducible rfl)))
      | (apply awp_regf mixedOK hΓ (by kernel_rfl); (focus (simp (disch := omega) only [go_sem, ↓reduceIte, decide_eq_true, decide_eq_false, if_pos, if_neg, wrap_in, maxLen]; with_reducible rfl)); (focus (simp only [go_sem]; with_reducible rfl)))
      | (apply awp_regt mixedOK hΓ rfl; (focus kernel_rfl); (focus (simp (disch := omega) only [go_sem, ↓reduceIte, decide_eq_true, decide_eq_false, if_pos, if_neg, wrap_in, maxLen]; with_reducible rfl)); (focus (simp only [go_sem]; with_reducible rfl)); (focus (simp (disch := omega) only [go_sem, ↓reduceIte, decide_eq_true, decide_eq_false, if_pos, if_neg, wrap_in, maxLen]; with_reducible rfl)))
      | (apply awp_cond_t; (focus (simp (disch := omega) only [go_sem, ↓reduceIte, decide_eq_true, decide_eq_false, if_pos, if_neg, wrap_in, maxLen]; done))) | (apply awp_cond_f; (focus (simp (disch := omega) only [go_sem, ↓reduceIte, decide_eq_true, decide_eq_false, if_pos, if_neg, wrap_in, maxLen]; done)))
      | (apply ret_e; (focus (simp (disch := omega) only [go_sem, ↓reduceIte, decide_eq_true, decide_eq_false, if_pos, if_neg, wrap_in, maxLen]; with_reducible rfl)); (focus (simp (disch := omega) only [go_sem, ↓reduceIte, decide_eq_true, decide_eq_false, if_pos, if_neg, wrap_in, maxLen]; with_reducible rfl))) | (apply end_e; (focus (simp (disch := omega) only [go_sem, ↓reduceIte, decide_eq_true, decide_eq_false, if_pos, if_neg, wrap_in, maxLen]; with_reducible rfl)); (focus (simp (disch := omega) only [go_sem, ↓reduceIte, decide_eq_true, decide_eq_false, if_pos, if_neg, wrap_in, maxLen]; with_reducible rfl)))
      | rfl)
    rw [hv]
  repeat (first
    | refine awp_seq ?_ | refine awp_block ?_ | refine awp_ret ?_ | refine awp_skip ?_ | refine awp_exit ?_ | refine awp_label ?_
    | refine then_normal ?_ | refine then_ret ?_ | refine then_exit ?_ | refine block_normal ?_ | refine block_ret ?_ | refine block_exit ?_ | refine block_out rfl ?_
    | (apply awp_reg hΓ; (focus (simp (disch := omega) only [go_sem, ↓reduceIte, decide_eq_true, decide_eq_false, if_pos, if_neg, wrap_in, maxLen]; with_reducible rfl)))
    | (apply awp_regf mixedOK hΓ (by kernel_rfl); (focus (simp (disch := omega) only [go_sem, ↓reduceIte, decide_eq_true, decide_eq_false, if_pos, if_neg, wrap_in, maxLen]; with_reducible rfl)); (focus (simp only [go_sem]; with_reducible rfl)))
    | (apply awp_regt mixedOK hΓ rfl; (focus kernel_rfl); (focus (simp (disch := omega) only [go_sem, ↓reduceIte, decide_eq_true, decide_eq_false, if_pos, if_neg, wrap_in, maxLen]; with_reducible rfl)); (focus (simp only [go_sem]; with_reducible rfl)); (focus (simp (disch := omega) only [go_sem, ↓reduceIte, decide_eq_true, decide_eq_false, if_pos, if_neg, wrap_in, maxLen]; with_reducible rfl)))
    | (apply awp_cond_t; (focus (simp (disch := omega) only [go_sem, ↓reduceIte, decide_eq_true, decide_eq_false, if_pos, if_neg, wrap_in, maxLen]; done))) | (apply awp_cond_f; (focus (simp (disch := omega) only [go_sem, ↓reduceIte, decide_eq_true, decide_eq_false, if_pos, if_neg, wrap_in, maxLen]; done)))
    | (apply ret_e; (focus (simp (disch := omega) only [go_sem, ↓reduceIte, decide_eq_true, decide_eq_false, if_pos, if_neg, wrap_in, maxLen]; with_reducible rfl)); (focus (simp (disch := omega) only [go_sem, ↓reduceIte, decide_eq_true, decide_eq_false, if_pos, if_neg, wrap_in, maxLen]; with_reducible rfl))) | (apply end_e; (focus (simp (disch := omega) only [go_sem, ↓reduceIte, decide_eq_true, decide_eq_false, if_pos, if_neg, wrap_in, maxLen]; with_reducible rfl)); (focus (simp (disch := omega) only [go_sem, ↓reduceIte, decide_eq_true, decide_eq_false, if_pos, if_neg, wrap_in, maxLen]; with_reducible rfl)))
    | rfl)
  refine awp_loop_at (X := Nat) (fun i => (frame 34 [(0, .data (.list (l.map eN))), (8, .data (.list (l.map eN))), (9, .data (i64 l.length)), (10, .data (i64 i))])) (fun _ => []) 0
    (fun i => i ≤ l.length ∧ ∀ j, j < i → okAt l j = true) (fun i => l.length - i) 0 ⟨Nat.zero_le _, fun j hj => by omega⟩ (Weak.ofF (by omega) (by simp [ConvF, lookV, Conv, ints]) (by (simp (disch := omega) only [TabSub, look, if_pos, if_neg, Obj.refsOK, refsOKs, AV.refsOK, decide_eq_true_eq, Bool.and_true, Bool.and_self] ) <;> ((repeat' apply And.intro) <;> first | exact True.intro | omega | (simp; done) | rfl)) (by simp (disch := omega) only [refsF, AV.refsOK, Bool.and_true, Bool.and_self, decide_eq_true_eq, Bool.true_and, Bool.and_eq_true]; try omega)) ?_
  rintro i ⟨hi, hp⟩
  by_cases hi2 : i < l.length
  case neg =>
    have hv := vld_all hb fun j hj => hp j (by omega)
    repeat (first
      | refine awp_seq ?_ | refine awp_block ?_ | refine awp_ret ?_ | refine awp_skip ?_ | refine awp_exit ?_ | refine awp_label ?_
      | refine then_normal ?_ | refine then_ret ?_ | refine then_exit ?_ | refine block_normal ?_ | refine block_ret ?_ | refine block_exit ?_ | refine block_out rfl ?_
      | (apply awp_reg hΓ; (focus (simp (disch := omega) only [go_sem, ↓reduceIte, decide_eq_true, decide_eq_false, if_pos, if_neg, wrap_in, maxLen]; with_reducible rfl)))
      | (apply awp_regf mixedOK hΓ (by kernel_rfl); (focus (simp (disch := omega) only [go_sem, ↓reduceIte, decide_eq_true, decide_eq_false, if_pos, if_neg, wrap_in, maxLen]; with_reducible rfl)); (focus (simp only [go_sem]; with_reducible rfl)))
      | (apply awp_regt mixedOK hΓ rfl; (focus kernel_rfl); (focus (simp (disch := omega) only [go_sem, ↓reduceIte, decide_eq_true, decide_eq_false, if_pos, if_neg, wrap_in, maxLen]; with_reducible rfl)); (focus (simp only [go_sem]; with_reducible rfl)); (focus (simp (disch := omega) only [go_sem, ↓reduceIte, decide_eq_true, decide_eq_false, if_pos, if_neg, wrap_in, maxLen]; with_reducible rfl)))
      | (apply awp_cond_t; (focus (simp (disch := omega) only [go_sem, ↓reduceIte, decide_eq_true, decide_eq_false, if_pos, if_neg, wrap_in, maxLen]; done))) | (apply awp_cond_f; (focus (simp (disch := omega) only [go_sem, ↓reduceIte, decide_eq_true, decide_eq_false, if_pos, if_neg, wrap_in, maxLen]; done)))
      | (apply ret_e; (focus (simp (disch := omega) only [go_sem, ↓reduceIte, decide_eq_true, decide_eq_false, if_pos, if_neg, wrap_in, maxLen]; with_reducible rfl)); (focus (simp (disch := omega) only [go_sem, ↓reduceIte, decide_eq_true, decide_eq_false, if_pos, if_neg, wrap_in, maxLen]; with_reducible rfl))) | (apply end_e; (focus (simp (disch := omega) only [go_sem, ↓reduceIte, decide_eq_true, decide_eq_false, if_pos, if_neg, wrap_in, maxLen]; with_reducible rfl)); (focus (simp (disch := omega) only [go_sem, ↓reduceIte, decide_eq_true, decide_eq_false, if_pos, if_neg, wrap_in, maxLen]; with_reducible rfl)))
      | rfl)
    rw [hv]
  have hok : okAt l i = (decide (l[i].d.length = 32) && okPair l i l[i]) := by simp only [okAt, List.getElem?_eq_getElem hi2]
  have hnext : okAt l i = true → ∀ j, j < i + 1 → okAt l j = true := fun h j hj => by
    by_cases hji : j = i
    · rw [hji]; exact h
    · exact hp j (by omega)
  generalize hx : l[i] = x at hok
  by_cases hd : x.d.length = 32
  case neg =>
    have hv := vld_pre hi2 hb (by rw [hok]; simp [hd])
    have hdn : ((x.d.length : Int) != 32) = true := by simp; omega
    repeat (first
      | refine awp_seq ?_ | refine awp_block ?_ | refine awp_ret ?_ | refine awp_skip ?_ | refine awp_exit ?_ | refine awp_label ?_
      | refine then_normal ?_ | refine then_ret ?_ | refine then_exit ?_ | refine block_normal ?_ | refine block_ret ?_ | refine block_exit ?_ | refine block_out rfl ?_
      | (apply awp_reg hΓ; (focus (simp (disch := omega) only [go_sem, ↓reduceIte, decide_eq_true, decide_eq_false, if_pos, if_neg, wrap_in, maxLen, hx, eN, hdn]; with_reducible rfl)))
      | (apply awp_regf mixedOK hΓ (by kernel_rfl); (focus (simp (disch := omega) only [go_sem, ↓reduceIte, decide_eq_true, decide_eq_false, if_pos, if_neg, wrap_in, maxLen, hx, eN, hdn]; with_reducible rfl)); (focus (simp only [go_sem]; with_reducible rfl)))
      | (apply awp_regt mixedOK hΓ rfl; (focus kernel_rfl); (focus (simp (disch := omega) only [go_sem, ↓reduceIte, decide_eq_true, decide_eq_false, if_pos, if_neg, wrap_in, maxLen, hx, eN, hdn]; with_reducible rfl)); (focus (simp only [go_sem]; with_reducible rfl)); (focus (simp (disch := omega) only [go_sem, ↓reduceIte, decide_eq_true, decide_eq_false, if_pos, if_neg, wrap_in, maxLen, hx, eN, hdn]; with_reducible rfl)))
      | (apply awp_cond_t; (focus (simp (disch := omega) only [go_sem, ↓reduceIte, decide_eq_true, decide_eq_false, if_pos, if_neg, wrap_in, maxLen, hx, eN, hdn]; done))) | (apply awp_cond_f; (focus (simp (disch := omega) only [go_sem, ↓reduceIte, decide_eq_true, decide_eq_false, if_pos, if_neg, wrap_in, maxLen, hx, eN, hdn]; done)))
      | (apply ret_e; (focus (simp (disch := omega) only [go_sem, ↓reduceIte, decide_eq_true, decide_eq_false, if_pos, if_neg, wrap_in, maxLen, hx, eN, hdn]; with_reducible rfl)); (focus (simp (disch := omega) only [go_sem, ↓reduceIte, decide_eq_true, decide_eq_false, if_pos, if_neg, wrap_in, maxLen, hx, eN, hdn]; with_reducible rfl))) | (apply end_e; (focus (simp (disch := omega) only [go_sem, ↓reduceIte, decide_eq_true, decide_eq_false, if_pos, if_neg, wrap_in, maxLen, hx, eN, hdn]; with_reducible rfl)); (focus (simp (disch := omega) only [go_sem, ↓reduceIte, decide_eq_true, decide_eq_false, if_pos, if_neg, wrap_in, maxLen, hx, eN, hdn]; with_reducible rfl)))
      | rfl)
    rw [hv]
  have hdn : ((x.d.length : Int) != 32) = false := by simp; omega
  cases i with
  | zero =>
    have hk := hnext (by rw [hok]; simp [hd, okPair])
    repeat (first
      | refine awp_seq ?_ | refine awp_block ?_ | refine awp_ret ?_ | refine awp_skip ?_ | refine awp_exit ?_ | refine awp_label ?_
      | refine then_normal ?_ | refine then_ret ?_ | refine then_exit ?_ | refine block_normal ?_ | refine block_ret ?_ | refine block_exit ?_ | refine block_out rfl ?_
      | (apply awp_reg hΓ; (focus (simp (disch := omega) only [go_sem, ↓reduceIte, decide_eq_true, decide_eq_false, if_pos, if_neg, wrap_in, maxLen, hx, eN, hdn]; with_reducible rfl)))
      | (apply awp_regf mixedOK hΓ (by kernel_rfl); (focus (simp (disch := omega) only [go_sem, ↓reduceIte, decide_eq_true, decide_eq_false, if_pos, if_neg, wrap_in, maxLen, hx, eN, hdn]; with_reducible rfl)); (focus (simp only [go_sem]; with_reducible rfl)))
      | (apply awp_regt mixedOK hΓ rfl; (focus kernel_rfl); (focus (simp (disch := omega) only [go_sem, ↓reduceIte, decide_eq_true, decide_eq_false, if_pos, if_neg, wrap_in, maxLen, hx, eN, hdn]; with_reducible rfl)); (focus (simp only [go_sem]; with_reducible rfl)); (focus (simp (disch := omega) only [go_sem, ↓reduceIte, decide_eq_true, decide_eq_false, if_pos, if_neg, wrap_in, maxLen, hx, eN, hdn]; with_reducible rfl)))
      | (apply awp_cond_t; (focus (simp (disch := omega) only [go_sem, ↓reduceIte, decide_eq_true, decide_eq_false, if_pos, if_neg, wrap_in, maxLen, hx, eN, hdn]; done))) | (apply awp_cond_f; (focus (simp (disch := omega) only [go_sem, ↓reduceIte, decide_eq_true, decide_eq_false, if_pos, if_neg, wrap_in, maxLen, hx, eN, hdn]; done)))
      | (apply ret_e; (focus (simp (disch := omega) only [go_sem, ↓reduceIte, decide_eq_true, decide_eq_false, if_pos, if_neg, wrap_in, maxLen, hx, eN, hdn]; with_reducible rfl)); (focus (simp (disch := omega) only [go_sem, ↓reduceIte, decide_eq_true, decide_eq_false, if_pos, if_neg, wrap_in, maxLen, hx, eN, hdn]; with_reducible rfl))) | (apply end_e; (focus (simp (disch := omega) only [go_sem, ↓reduceIte, decide_eq_true, decide_eq_false, if_pos, if_neg, wrap_in, maxLen, hx, eN, hdn]; with_reducible rfl)); (focus (simp (disch := omega) only [go_sem, ↓reduceIte, decide_eq_true, decide_eq_false, if_pos, if_neg, wrap_in, maxLen, hx, eN, hdn]; with_reducible rfl)))
      | rfl)
    exact ⟨1, ⟨by omega, hk⟩, by omega, Weak.ofF (by omega) (by simp [ConvF, lookV, Conv, ints]) (by (simp (disch := omega) only [TabSub, look, if_pos, if_neg, Obj.refsOK, refsOKs, AV.refsOK, decide_eq_true_eq, Bool.and_true, Bool.and_self] ) <;> ((repeat' apply And.intro) <;> first | exact True.intro | omega | (simp; done) | rfl)) (by simp (disch := omega) only [refsF, AV.refsOK, Bool.and_true, Bool.and_self, decide_eq_true_eq, Bool.true_and, Bool.and_eq_true]; try omega)⟩
  | succ j =>
    have hj : j < l.length := by omega
    simp only [okPair, List.getElem?_eq_getElem hj] at hok
    have tj : (((j + 1 : Nat) : Int) - 1).toNat = j := by omega
    generalize hy : l[j] = y at hok
    have e42 := g42_eq y x
    have hge := nOrd_ge y x
    cases hlt : nLt y x with
    | true =>
      rw [hlt] at hge hok
      have hk := hnext (by rw [hok]; simp [hd])
      repeat (first
        | refine awp_seq ?_ | refine awp_block ?_ | refine awp_ret ?_ | refine awp_skip ?_ | refine awp_exit ?_ | refine awp_label ?_
        | refine then_normal ?_ | refine then_ret ?_ | refine then_exit ?_ | refine block_normal ?_ | refine block_ret ?_ | refine block_exit ?_ | refine block_out rfl ?_
        | (apply awp_reg hΓ; (focus (simp (disch := omega) only [go_sem, ↓reduceIte, decide_eq_true, decide_eq_false, if_pos, if_neg, wrap_in, maxLen, hx, eN, hdn, tj, hy, Γ22, e42, hge]; with_reducible rfl)))
        | (apply awp_regf mixedOK hΓ (by kernel_rfl); (focus (simp (disch := omega) only [go_sem, ↓reduceIte, decide_eq_true, decide_eq_false, if_pos, if_neg, wrap_in, maxLen, hx, eN, hdn, tj, hy, Γ22, e42, hge]; with_reducible rfl)); (focus (simp only [go_sem]; with_reducible rfl)))
        | (apply awp_regt mixedOK hΓ rfl; (focus kernel_rfl); (focus (simp (disch := omega) only [go_sem, ↓reduceIte, decide_eq_true, decide_eq_false, if_pos, if_neg, wrap_in, maxLen, hx, eN, hdn, tj, hy, Γ22, e42, hge]; with_reducible rfl)); (focus (simp only [go_sem]; with_reducible rfl)); (focus (simp (disch := omega) only [go_sem, ↓reduceIte, decide_eq_true, decide_eq_false, if_pos, if_neg, wrap_in, maxLen, hx, eN, hdn, tj, hy, Γ22, e42, hge]; with_reducible rfl)))
        | (apply awp_cond_t; (focus (simp (disch := omega) only [go_sem, ↓reduceIte, decide_eq_true, decide_eq_false, if_pos, if_neg, wrap_in, maxLen, hx, eN, hdn, tj, hy, Γ22, e42, hge]; done))) | (apply awp_cond_f; (focus (simp (disch := omega) only [go_sem, ↓reduceIte, decide_eq_true, decide_eq_false, if_pos, if_neg, wrap_in, maxLen, hx, eN, hdn, tj, hy, Γ22, e42, hge]; done)))
        | (apply ret_e; (focus (simp (disch := omega) only [go_sem, ↓reduceIte, decide_eq_true, decide_eq_false, if_pos, if_neg, wrap_in, maxLen, hx, eN, hdn, tj, hy, Γ22, e42, hge]; with_reducible rfl)); (focus (simp (disch := omega) only [go_sem, ↓reduceIte, decide_eq_true, decide_eq_false, if_pos, if_neg, wrap_in, maxLen, hx, eN, hdn, tj, hy, Γ22, e42, hge]; with_reducible rfl))) | (apply end_e; (focus (simp (disch := omega) only [go_sem, ↓reduceIte, decide_eq_true, decide_eq_false, if_pos, if_neg, wrap_in, maxLen, hx, eN, hdn, tj, hy, Γ22, e42, hge]; with_reducible rfl)); (focus (simp (disch := omega) only [go_sem, ↓reduceIte, decide_eq_true, decide_eq_false, if_pos, if_neg, wrap_in, maxLen, hx, eN, hdn, tj, hy, Γ22, e42, hge]; with_reducible rfl)))
        | rfl)
      exact ⟨j + 1 + 1, ⟨by omega, hk⟩, by omega, Weak.ofF (by omega) (by simp [ConvF, lookV, Conv, ints]) (by (simp (disch := omega) only [TabSub, look, if_pos, if_neg, Obj.refsOK, refsOKs, AV.refsOK, decide_eq_true_eq, Bool.and_true, Bool.and_self] ) <;> ((repeat' apply And.intro) <;> first | exact True.intro | omega | (simp; done) | rfl)) (by simp (disch := omega) only [refsF, AV.refsOK, Bool.and_true, Bool.and_self, decide_eq_true_eq, Bool.true_and, Bool.and_eq_true]; try omega)⟩
    | false =>
      rw [hlt] at hge hok
      have hv := vld_pre hi2 hb (by rw [hok]; simp)
      repeat (first
        | refine awp_seq ?_ | refine awp_block ?_ | refine awp_ret ?_ | refine awp_skip ?_ | refine awp_exit ?_ | refine awp_label ?_
        | refine then_normal ?_ | refine then_ret ?_ | refine then_exit ?_ | refine block_normal ?_ | refine block_ret ?_ | refine block_exit ?_ | refine block_out rfl ?_
        | (apply awp_reg hΓ; (focus (simp (disch := omega) only [go_sem, ↓reduceIte, decide_eq_true, decide_eq_false, if_pos, if_neg, wrap_in, maxLen, hx, eN, hdn, tj, hy, Γ22, e42, hge]; with_reducible rfl)))
        | (apply awp_regf mixedOK hΓ (by kernel_rfl); (focus (simp (disch := omega) only [go_sem, ↓reduceIte, decide_eq_true, decide_eq_false, if_pos, if_neg, wrap_in, maxLen, hx, eN, hdn, tj, hy, Γ22, e42, hge]; with_reducible rfl)); (focus (simp only [go_sem]; with_reducible rfl)))
        | (apply awp_regt mixedOK hΓ rfl; (focus kernel_rfl); (focus (simp (disch := omega) only [go_sem, ↓reduceIte, decide_eq_true, decide_eq_false, if_pos, if_neg, wrap_in, maxLen, hx, eN, hdn, tj, hy, Γ22, e42, hge]; with_reducible rfl)); (focus (simp only [go_sem]; with_reducible rfl)); (focus (simp (disch := omega) only [go_sem, ↓reduceIte, decide_eq_true, decide_eq_false, if_pos, if_neg, wrap_in, maxLen, hx, eN, hdn, tj, hy, Γ22, e42, hge]; with_reducible rfl)))
        | (apply awp_cond_t; (focus (simp (disch := omega) only [go_sem, ↓reduceIte, decide_eq_true, decide_eq_false, if_pos, if_neg, wrap_in, maxLen, hx, eN, hdn, tj, hy, Γ22, e42, hge]; done))) | (apply awp_cond_f; (focus (simp (disch := omega) only [go_sem, ↓reduceIte, decide_eq_true, decide_eq_false, if_pos, if_neg, wrap_in, maxLen, hx, eN, hdn, tj, hy, Γ22, e42, hge]; done)))
        | (apply ret_e; (focus (simp (disch := omega) only [go_sem, ↓reduceIte, decide_eq_true, decide_eq_false, if_pos, if_neg, wrap_in, maxLen, hx, eN, hdn, tj, hy, Γ22, e42, hge]; with_reducible rfl)); (focus (simp (disch := omega) only [go_sem, ↓reduceIte, decide_eq_true, decide_eq_false, if_pos, if_neg, wrap_in, maxLen, hx, eN, hdn, tj, hy, Γ22, e42, hge]; with_reducible rfl))) | (apply end_e; (focus (simp (disch := omega) only [go_sem, ↓reduceIte, decide_eq_true, decide_eq_false, if_pos, if_neg, wrap_in, maxLen, hx, eN, hdn, tj, hy, Γ22, e42, hge]; with_reducible rfl)); (focus (simp (disch := omega) only [go_sem, ↓reduceIte, decide_eq_true, decide_eq_false, if_pos, if_neg, wrap_in, maxLen, hx, eN, hdn, tj, hy, Γ22, e42, hge]; with_reducible rfl)))
        | rfl)
      rw [hv]
noncomputable def Γ23 : FuncId → Option CSpec := fun f => if f = 43 then some (.pure true g43) else none
theorem Γ23_ok : ∀ f s, Γ23 f = some s → SpecOK Try.prog f s := by
  intro f s h
  unfold Γ23 at h
  split at h
  · rename_i hf; cases h; subst hf; exact f43_ok
  · cases h
theorem f23_ok : PureOK Try.prog 23 true g22 := by
  have hΓ := Γ23_ok
  refine pure_enc (n := 37) (rs := [.tmp 2]) Try.func23 (by kernel_rfl) rfl (by kernel_rfl) (by kernel_rfl) ?_
  intro l hl
  refine ⟨fun _ => .int _ _, fun k hz0 => ?_⟩
  rw [start_frame (by simp)]; simp only [enumV, go_sem, emptyH]
  by_cases hb : l.length > 1024
  · have hv : vld l = 1 := by simp [vld, hb]
    repeat (first
      | refine awp_seq ?_ | refine awp_block ?_ | refine awp_ret ?_ | refine awp_skip ?_ | refine awp_exit ?_ | refine awp_label ?_
      | refine then_normal ?_ | refine then_ret ?_ | refine then_exit ?_ | refine block_normal ?_ | refine block_ret ?_ | refine block_exit ?_ | refine block_out rfl ?_
      | (apply awp_reg hΓ; (focus (simp (disch := omega) only [go_sem, ↓reduceIte, decide_eq_true, decide_eq_false, if_pos, if_neg, wrap_in, maxLen]; with_reducible rfl)))
      | (apply awp_regf mixedOK hΓ (by kernel_rfl); (focus (simp (disch := omega) only [go_sem, ↓reduceIte, decide_eq_true, decide_eq_false, if_pos, if_neg, wrap_in, maxLen]; with_reducible rfl)); (focus (simp only [go_sem]; with_reducible rfl)))
      | (apply awp_regt mixedOK hΓ rfl; (focus kernel_rfl); (focus (simp (disch := omega) only [go_sem, ↓reduceIte, decide_eq_true, decide_eq_false, if_pos, if_neg, wrap_in, maxLen]; with_reducible rfl)); (focus (simp only [go_sem]; with_reducible rfl)); (focus (simp (disch := omega) only [go_sem, ↓reduceIte, decide_eq_true, decide_eq_false, if_pos, if_neg, wrap_in, maxLen]; with_reducible rfl)))
      | (apply awp_cond_t; (focus (simp (disch := omega) only [go_sem, ↓reduceIte, decide_eq_true, decide_eq_false, if_pos, if_neg, wrap_in, maxLen]; done))) | (apply awp_cond_f; (focus (simp (disch := omega) only [go_sem, ↓reduceIte, decide_eq_true, decide_eq_false, if_pos, if_neg, wrap_in, maxLen]; done)))
      | (apply ret_e; (focus (simp (disch := omega) only [go_sem, ↓reduceIte, decide_eq_true, decide_eq_false, if_pos, if_neg, wrap_in, maxLen]; with_reducible rfl)); (focus (simp (disch := omega) only [go_sem, ↓reduceIte, decide_eq_true, decide_eq_false, if_pos, if_neg, wrap_in, maxLen]; with_reducible rfl))) | (apply end_e; (focus (simp (disch := omega) only [go_sem, ↓reduceIte, decide_eq_true, decide_eq_false, if_pos, if_neg, wrap_in, maxLen]; with_reducible rfl)); (focus (simp (disch := omega) only [go_sem, ↓reduceIte, decide_eq_true, decide_eq_false, if_pos, if_neg, wrap_in, maxLen]; with_reducible rfl)))
      | rfl)
    rw [hv]
  repeat (first
    | refine awp_seq ?_ | refine awp_block ?_ | refine awp_ret ?_ | refine awp_skip ?_ | refine awp_exit ?_ | refine awp_label ?_
    | refine then_normal ?_ | refine then_ret ?_ | refine then_exit ?_ | refine block_normal ?_ | refine block_ret ?_ | refine block_exit ?_ | refine block_out rfl ?_
    | (apply awp_reg hΓ; (focus (simp (disch := omega) only [go_sem, ↓reduceIte, decide_eq_true, decide_eq_false, if_pos, if_neg, wrap_in, maxLen]; with_reducible rfl)))
    | (apply awp_regf mixedOK hΓ (by kernel_rfl); (focus (simp (disch := omega) only [go_sem, ↓reduceIte, decide_eq_true, decide_eq_false, if_pos, if_neg, wrap_in, maxLen]; with_reducible rfl)); (focus (simp only [go_sem]; with_reducible rfl)))
    | (apply awp_regt mixedOK hΓ rfl; (focus kernel_rfl); (focus (simp (disch := omega) only [go_sem, ↓reduceIte, decide_eq_true, decide_eq_false, if_pos, if_neg, wrap_in, maxLen]; with_reducible rfl)); (focus (simp only [go_sem]; with_reducible rfl)); (focus (simp (disch := omega) only [go_sem, ↓reduceIte, decide_eq_true, decide_eq_false, if_pos, if_neg, wrap_in, maxLen]; with_reducible rfl)))
    | (apply awp_cond_t; (focus (simp (disch := omega) only [go_sem, ↓reduceIte, decide_eq_true, decide_eq_false, if_pos, if_neg, wrap_in, maxLen]; done))) | (apply awp_cond_f; (focus (simp (disch := omega) only [go_sem, ↓reduceIte, decide_eq_true, decide_eq_false, if_pos, if_neg, wrap_in, maxLen]; done)))
    | (apply ret_e; (focus (simp (disch := omega) only [go_sem, ↓reduceIte, decide_eq_true, decide_eq_false, if_pos, if_neg, wrap_in, maxLen]; with_reducible rfl)); (focus (simp (disch := omega) only [go_sem, ↓reduceIte, decide_eq_true, decide_eq_false, if_pos, if_neg, wrap_in, maxLen]; with_reducible rfl))) | (apply end_e; (focus (simp (disch := omega) only [go_sem, ↓reduceIte, decide_eq_true, decide_eq_false, if_pos, if_neg, wrap_in, maxLen]; with_reducible rfl)); (focus (simp (disch := omega) only [go_sem, ↓reduceIte, decide_eq_true, decide_eq_false, if_pos, if_neg, wrap_in, maxLen]; with_reducible rfl)))
    | rfl)
  refine awp_loop_at (X := Nat) (fun i => (frame 37 [(0, .data (.list (l.map eN))), (3, .data (i64 i))])) (fun _ => []) 0
    (fun i => i ≤ l.length ∧ ∀ j, j < i → okAt l j = true) (fun i => l.length - i) 0 ⟨Nat.zero_le _, fun j hj => by omega⟩ (Weak.ofF (by omega) (by simp [ConvF, lookV, Conv, ints]) (by (simp (disch := omega) only [TabSub, look, if_pos, if_neg, Obj.refsOK, refsOKs, AV.refsOK, decide_eq_true_eq, Bool.and_true, Bool.and_self] ) <;> ((repeat' apply And.intro) <;> first | exact True.intro | omega | (simp; done) | rfl)) (by simp (disch := omega) only [refsF, AV.refsOK, Bool.and_true, Bool.and_self, decide_eq_true_eq, Bool.true_and, Bool.and_eq_true]; try omega)) ?_
  rintro i ⟨hi, hp⟩
  by_cases hi2 : i < l.length
  case neg =>
    have hv := vld_all hb fun j hj => hp j (by omega)
    repeat (first
      | refine awp_seq ?_ | refine awp_block ?_ | refine awp_ret ?_ | refine awp_skip ?_ | refine awp_exit ?_ | refine awp_label ?_
      | refine then_normal ?_ | refine then_ret ?_ | refine then_exit ?_ | refine block_normal ?_ | refine block_ret ?_ | refine block_exit ?_ | refine block_out rfl ?_
      | (apply awp_reg hΓ; (focus (simp (disch := omega) only [go_sem, ↓reduceIte, decide_eq_true, decide_eq_false, if_pos, if_neg, wrap_in, maxLen]; with_reducible rfl)))
      | (apply awp_regf mixedOK hΓ (by kernel_rfl); (focus (simp (disch := omega) only [go_sem, ↓reduceIte, decide_eq_true, decide_eq_false, if_pos, if_neg, wrap_in, maxLen]; with_reducible rfl)); (focus (simp only [go_sem]; with_reducible rfl)))
      | (apply awp_regt mixedOK hΓ rfl; (focus kernel_rfl); (focus (simp (disch := omega) only [go_sem, ↓reduceIte, decide_eq_true, decide_eq_false, if_pos, if_neg, wrap_in, maxLen]; with_reducible rfl)); (focus (simp only [go_sem]; with_reducible rfl)); (focus (simp (disch := omega) only [go_sem, ↓reduceIte, decide_eq_true, decide_eq_false, if_pos, if_neg, wrap_in, maxLen]; with_reducible rfl)))
      | (apply awp_cond_t; (focus (simp (disch := omega) only [go_sem, ↓reduceIte, decide_eq_true, decide_eq_false, if_pos, if_neg, wrap_in, maxLen]; done))) | (apply awp_cond_f; (focus (simp (disch := omega) only [go_sem, ↓reduceIte, decide_eq_true, decide_eq_false, if_pos, if_neg, wrap_in, maxLen]; done)))
      | (apply ret_e; (focus (simp (disch := omega) only [go_sem, ↓reduceIte, decide_eq_true, decide_eq_false, if_pos, if_neg, wrap_in, maxLen]; with_reducible rfl)); (focus (simp (disch := omega) only [go_sem, ↓reduceIte, decide_eq_true, decide_eq_false, if_pos, if_neg, wrap_in, maxLen]; with_reducible rfl))) | (apply end_e; (focus (simp (disch := omega) only [go_sem, ↓reduceIte, decide_eq_true, decide_eq_false, if_pos, if_neg, wrap_in, maxLen]; with_reducible rfl)); (focus (simp (disch := omega) only [go_sem, ↓reduceIte, decide_eq_true, decide_eq_false, if_pos, if_neg, wrap_in, maxLen]; with_reducible rfl)))
      | rfl)
    rw [hv]
  have hok : okAt l i = (decide (l[i].d.length = 32) && okPair l i l[i]) := by simp only [okAt, List.getElem?_eq_getElem hi2]
  have hnext : okAt l i = true → ∀ j, j < i + 1 → okAt l j = true := fun h j hj => by
    by_cases hji : j = i
    · rw [hji]; exact h
    · exact hp j (by omega)
  generalize hx : l[i] = x at hok
  by_cases hd : x.d.length = 32
  case neg =>
    have hv := vld_pre hi2 hb (by rw [hok]; simp [hd])
    have hdn : ((x.d.length : Int) != 32) = true := by simp; omega
    repeat (first
      | refine awp_seq ?_ | refine awp_block ?_ | refine awp_ret ?_ | refine awp_skip ?_ | refine awp_exit ?_ | refine awp_label ?_
      | refine then_normal ?_ | refine then_ret ?_ | refine then_exit ?_ | refine block_normal ?_ | refine block_ret ?_ | refine block_exit ?_ | refine block_out rfl ?_
      | (apply awp_reg hΓ; (focus (simp (disch := omega) only [go_sem, ↓reduceIte, decide_eq_true, decide_eq_false, if_pos, if_neg, wrap_in, maxLen, hx, eN, hdn]; with_reducible rfl)))
      | (apply awp_regf mixedOK hΓ (by kernel_rfl); (focus (simp (disch := omega) only [go_sem, ↓reduceIte, decide_eq_true, decide_eq_false, if_pos, if_neg, wrap_in, maxLen, hx, eN, hdn]; with_reducible rfl)); (focus (simp only [go_sem]; with_reducible rfl)))
      | (apply awp_regt mixedOK hΓ rfl; (focus kernel_rfl); (focus (simp (disch := omega) only [go_sem, ↓reduceIte, decide_eq_true, decide_eq_false, if_pos, if_neg, wrap_in, maxLen, hx, eN, hdn]; with_reducible rfl)); (focus (simp only [go_sem]; with_reducible rfl)); (focus (simp (disch := omega) only [go_sem, ↓reduceIte, decide_eq_true, decide_eq_false, if_pos, if_neg, wrap_in, maxLen, hx, eN, hdn]; with_reducible rfl)))
      | (apply awp_cond_t; (focus (simp (disch := omega) only [go_sem, ↓reduceIte, decide_eq_true, decide_eq_false, if_pos, if_neg, wrap_in, maxLen, hx, eN, hdn]; done))) | (apply awp_cond_f; (focus (simp (disch := omega) only [go_sem, ↓reduceIte, decide_eq_true, decide_eq_false, if_pos, if_neg, wrap_in, maxLen, hx, eN, hdn]; done)))
      | (apply ret_e; (focus (simp (disch := omega) only [go_sem, ↓reduceIte, decide_eq_true, decide_eq_false, if_pos, if_neg, wrap_in, maxLen, hx, eN, hdn]; with_reducible rfl)); (focus (simp (disch := omega) only [go_sem, ↓reduceIte, decide_eq_true, decide_eq_false, if_pos, if_neg, wrap_in, maxLen, hx, eN, hdn]; with_reducible rfl))) | (apply end_e; (focus (simp (disch := omega) only [go_sem, ↓reduceIte, decide_eq_true, decide_eq_false, if_pos, if_neg, wrap_in, maxLen, hx, eN, hdn]; with_reducible rfl)); (focus (simp (disch := omega) only [go_sem, ↓reduceIte, decide_eq_true, decide_eq_false, if_pos, if_neg, wrap_in, maxLen, hx, eN, hdn]; with_reducible rfl)))
      | rfl)
    rw [hv]
  have hdn : ((x.d.length : Int) != 32) = false := by simp; omega
  cases i with
  | zero =>
    have hk := hnext (by rw [hok]; simp [hd, okPair])
    repeat (first
      | refine awp_seq ?_ | refine awp_block ?_ | refine awp_ret ?_ | refine awp_skip ?_ | refine awp_exit ?_ | refine awp_label ?_
      | refine then_normal ?_ | refine then_ret ?_ | refine then_exit ?_ | refine block_normal ?_ | refine block_ret ?_ | refine block_exit ?_ | refine block_out rfl ?_
      | (apply awp_reg hΓ; (focus (simp (disch := omega) only [go_sem, ↓reduceIte, decide_eq_true, decide_eq_false, if_pos, if_neg, wrap_in, maxLen, hx, eN, hdn]; with_reducible rfl)))
      | (apply awp_regf mixedOK hΓ (by kernel_rfl); (focus (simp (disch := omega) only [go_sem, ↓reduceIte, decide_eq_true, decide_eq_false, if_pos, if_neg, wrap_in, maxLen, hx, eN, hdn]; with_reducible rfl)); (focus (simp only [go_sem]; with_reducible rfl)))
      | (apply awp_regt mixedOK hΓ rfl; (focus kernel_rfl); (focus (simp (disch := omega) only [go_sem, ↓reduceIte, decide_eq_true, decide_eq_false, if_pos, if_neg, wrap_in, maxLen, hx, eN, hdn]; with_reducible rfl)); (focus (simp only [go_sem]; with_reducible rfl)); (focus (simp (disch := omega) only [go_sem, ↓reduceIte, decide_eq_true, decide_eq_false, if_pos, if_neg, wrap_in, maxLen, hx, eN, hdn]; with_reducible rfl)))
      | (apply awp_cond_t; (focus (simp (disch := omega) only [go_sem, ↓reduceIte, decide_eq_true, decide_eq_false, if_pos, if_neg, wrap_in, maxLen, hx, eN, hdn]; done))) | (apply awp_cond_f; (focus (simp (disch := omega) only [go_sem, ↓reduceIte, decide_eq_true, decide_eq_false, if_pos, if_neg, wrap_in, maxLen, hx, eN, hdn]; done)))
      | (apply ret_e; (focus (simp (disch := omega) only [go_sem, ↓reduceIte, decide_eq_true, decide_eq_false, if_pos, if_neg, wrap_in, maxLen, hx, eN, hdn]; with_reducible rfl)); (focus (simp (disch := omega) only [go_sem, ↓reduceIte, decide_eq_true, decide_eq_false, if_pos, if_neg, wrap_in, maxLen, hx, eN, hdn]; with_reducible rfl))) | (apply end_e; (focus (simp (disch := omega) only [go_sem, ↓reduceIte, decide_eq_true, decide_eq_false, if_pos, if_neg, wrap_in, maxLen, hx, eN, hdn]; with_reducible rfl)); (focus (simp (disch := omega) only [go_sem, ↓reduceIte, decide_eq_true, decide_eq_false, if_pos, if_neg, wrap_in, maxLen, hx, eN, hdn]; with_reducible rfl)))
      | rfl)
    exact ⟨1, ⟨by omega, hk⟩, by omega, Weak.ofF (by omega) (by simp [ConvF, lookV, Conv, ints]) (by (simp (disch := omega) only [TabSub, look, if_pos, if_neg, Obj.refsOK, refsOKs, AV.refsOK, decide_eq_true_eq, Bool.and_true, Bool.and_self] ) <;> ((repeat' apply And.intro) <;> first | exact True.intro | omega | (simp; done) | rfl)) (by simp (disch := omega) only [refsF, AV.refsOK, Bool.and_true, Bool.and_self, decide_eq_true_eq, Bool.true_and, Bool.and_eq_true]; try omega)⟩
  | succ j =>
    have hj : j < l.length := by omega
    simp only [okPair, List.getElem?_eq_getElem hj] at hok
    have tj : (((j + 1 : Nat) : Int) - 1).toNat = j := by omega
    generalize hy : l[j] = y at hok
    have e43 := g43_eq y x
    cases hlt : nLt y x with
    | true =>
      rw [hlt] at hok e43
      have hk := hnext (by rw [hok]; simp [hd])
      repeat (first
        | refine awp_seq ?_ | refine awp_block ?_ | refine awp_ret ?_ | refine awp_skip ?_ | refine awp_exit ?_ | refine awp_label ?_
        | refine then_normal ?_ | refine then_ret ?_ | refine then_exit ?_ | refine block_normal ?_ | refine block_ret ?_ | refine block_exit ?_ | refine block_out rfl ?_
        | (apply awp_reg hΓ; (focus (simp (disch := omega) only [go_sem, ↓reduceIte, decide_eq_true, decide_eq_false, if_pos, if_neg, wrap_in, maxLen, hx, eN, hdn, tj, hy, Γ23, e43]; with_reducible rfl)))
        | (apply awp_regf mixedOK hΓ (by kernel_rfl); (focus (simp (disch := omega) only [go_sem, ↓reduceIte, decide_eq_true, decide_eq_false, if_pos, if_neg, wrap_in, maxLen, hx, eN, hdn, tj, hy, Γ23, e43]; with_reducible rfl)); (focus (simp only [go_sem]; with_reducible rfl)))
        | (apply awp_regt mixedOK hΓ rfl; (focus kernel_rfl); (focus (simp (disch := omega) only [go_sem, ↓reduceIte, decide_eq_true, decide_eq_false, if_pos, if_neg, wrap_in, maxLen, hx, eN, hdn, tj, hy, Γ23, e43]; with_reducible rfl)); (focus (simp only [go_sem]; with_reducible rfl)); (focus (simp (disch := omega) only [go_sem, ↓reduceIte, decide_eq_true, decide_eq_false, if_pos, if_neg, wrap_in, maxLen, hx, eN, hdn, tj, hy, Γ23, e43]; with_reducible rfl)))
        | (apply awp_cond_t; (focus (simp (disch := omega) only [go_sem, ↓reduceIte, decide_eq_true, decide_eq_false, if_pos, if_neg, wrap_in, maxLen, hx, eN, hdn, tj, hy, Γ23, e43]; done))) | (apply awp_cond_f; (focus (simp (disch := omega) only [go_sem, ↓reduceIte, decide_eq_true, decide_eq_false, if_pos, if_neg, wrap_in, maxLen, hx, eN, hdn, tj, hy, Γ23, e43]; done)))
        | (apply ret_e; (focus (simp (disch := omega) only [go_sem, ↓reduceIte, decide_eq_true, decide_eq_false, if_pos, if_neg, wrap_in, maxLen, hx, eN, hdn, tj, hy, Γ23, e43]; with_reducible rfl)); (focus (simp (disch := omega) only [go_sem, ↓reduceIte, decide_eq_true, decide_eq_false, if_pos, if_neg, wrap_in, maxLen, hx, eN, hdn, tj, hy, Γ23, e43]; with_reducible rfl))) | (apply end_e; (focus (simp (disch := omega) only [go_sem, ↓reduceIte, decide_eq_true, decide_eq_false, if_pos, if_neg, wrap_in, maxLen, hx, eN, hdn, tj, hy, Γ23, e43]; with_reducible rfl)); (focus (simp (disch := omega) only [go_sem, ↓reduceIte, decide_eq_true, decide_eq_false, if_pos, if_neg, wrap_in, maxLen, hx, eN, hdn, tj, hy, Γ23, e43]; with_reducible rfl)))
        | rfl)
      exact ⟨j + 1 + 1, ⟨by omega, hk⟩, by omega, Weak.ofF (by omega) (by simp [ConvF, lookV, Conv, ints]) (by (simp (disch := omega) only [TabSub, look, if_pos, if_neg, Obj.refsOK, refsOKs, AV.refsOK, decide_eq_true_eq, Bool.and_true, Bool.and_self] ) <;> ((repeat' apply And.intro) <;> first | exact True.intro | omega | (simp; done) | rfl)) (by simp (disch := omega) only [refsF, AV.refsOK, Bool.and_true, Bool.and_self, decide_eq_true_eq, Bool.true_and, Bool.and_eq_true]; try omega)⟩
    | false =>
      rw [hlt] at hok e43
      have hv := vld_pre hi2 hb (by rw [hok]; simp)
      repeat (first
        | refine awp_seq ?_ | refine awp_block ?_ | refine awp_ret ?_ | refine awp_skip ?_ | refine awp_exit ?_ | refine awp_label ?_
        | refine then_normal ?_ | refine then_ret ?_ | refine then_exit ?_ | refine block_normal ?_ | refine block_ret ?_ | refine block_exit ?_ | refine block_out rfl ?_
        | (apply awp_reg hΓ; (focus (simp (disch := omega) only [go_sem, ↓reduceIte, decide_eq_true, decide_eq_false, if_pos, if_neg, wrap_in, maxLen, hx, eN, hdn, tj, hy, Γ23, e43]; with_reducible rfl)))
        | (apply awp_regf mixedOK hΓ (by kernel_rfl); (focus (simp (disch := omega) only [go_sem, ↓reduceIte, decide_eq_true, decide_eq_false, if_pos, if_neg, wrap_in, maxLen, hx, eN, hdn, tj, hy, Γ23, e43]; with_reducible rfl)); (focus (simp only [go_sem]; with_reducible rfl)))
        | (apply awp_regt mixedOK hΓ rfl; (focus kernel_rfl); (focus (simp (disch := omega) only [go_sem, ↓reduceIte, decide_eq_true, decide_eq_false, if_pos, if_neg, wrap_in, maxLen, hx, eN, hdn, tj, hy, Γ23, e43]; with_reducible rfl)); (focus (simp only [go_sem]; with_reducible rfl)); (focus (simp (disch := omega) only [go_sem, ↓reduceIte, decide_eq_true, decide_eq_false, if_pos, if_neg, wrap_in, maxLen, hx, eN, hdn, tj, hy, Γ23, e43]; with_reducible rfl)))
        | (apply awp_cond_t; (focus (simp (disch := omega) only [go_sem, ↓reduceIte, decide_eq_true, decide_eq_false, if_pos, if_neg, wrap_in, maxLen, hx, eN, hdn, tj, hy, Γ23, e43]; done))) | (apply awp_cond_f; (focus (simp (disch := omega) only [go_sem, ↓reduceIte, decide_eq_true, decide_eq_false, if_pos, if_neg, wrap_in, maxLen, hx, eN, hdn, tj, hy, Γ23, e43]; done)))
        | (apply ret_e; (focus (simp (disch := omega) only [go_sem, ↓reduceIte, decide_eq_true, decide_eq_false, if_pos, if_neg, wrap_in, maxLen, hx, eN, hdn, tj, hy, Γ23, e43]; with_reducible rfl)); (focus (simp (disch := omega) only [go_sem, ↓reduceIte, decide_eq_true, decide_eq_false, if_pos, if_neg, wrap_in, maxLen, hx, eN, hdn, tj, hy, Γ23, e43]; with_reducible rfl))) | (apply end_e; (focus (simp (disch := omega) only [go_sem, ↓reduceIte, decide_eq_true, decide_eq_false, if_pos, if_neg, wrap_in, maxLen, hx, eN, hdn, tj, hy, Γ23, e43]; with_reducible rfl)); (focus (simp (disch := omega) only [go_sem, ↓reduceIte, decide_eq_true, decide_eq_false, if_pos, if_neg, wrap_in, maxLen, hx, eN, hdn, tj, hy, Γ23, e43]; with_reducible rfl)))
        | rfl)
      rw [hv]
end Go.Ab
