/-
  One text of the proof (own work): contracts of functions of the program, by the abstract machine.
-/
import Derived.Test.YtmcgfohokniepaaW1
set_option linter.unusedVariables false
set_option linter.unusedSimpArgs false
namespace Go.Ab
open Go Go.RowKit Go.Proofs
set_option maxRecDepth 4000
set_option maxHeartbeats 4000000

/-! ### Cut at a byte -/
def fb (s : List UInt8) (c : UInt8) : Nat := s.findIdx (· == c)
theorem fb_le (s : List UInt8) (c : UInt8) : fb s c ≤ s.length := List.findIdx_le_length
theorem fb_cons (x : UInt8) (s : List UInt8) (c : UInt8) : fb (x :: s) c = if x == c then 0 else fb s c + 1 := by
  simp only [fb, List.findIdx_cons]
  cases x == c <;> rfl
theorem index_fb : ∀ (s : List UInt8) (c : UInt8), Lib.indexByte s c = if fb s c < s.length then (fb s c : Int) else -1
  | [], c => rfl
  | x :: s, c => by
    have ih := index_fb s c
    have hl := fb_le s c
    simp only [Lib.indexByte, fb_cons, List.length_cons]
    by_cases h : (x == c) = true
    · simp [h]
    · have h' : (x == c) = false := by simpa using h
      simp only [h', Bool.false_eq_true, if_false, ih]
      by_cases h2 : fb s c < s.length
      · have e : ((fb s c : Int) == -1) = false := by rw [beq_eq_false_iff_ne]; omega
        simp only [if_pos h2, e, Bool.false_eq_true, if_false, if_pos (show fb s c + 1 < s.length + 1 by omega)]
        omega
      · simp only [if_neg h2, if_neg (show ¬ fb s c + 1 < s.length + 1 by omega)]
        rfl
theorem g109_eq (s : List UInt8) (c : UInt8) : g109 [.str s, .int .u8 (c.toNat : Int)] = some (.int .i64 (Lib.indexByte s c)) := by
  simp [g109]
noncomputable def g83 : List D → Option D := encSpec (fun x : List UInt8 × UInt8 => [.str x.1, .str [x.2]]) (fun x => x.1.length ≤ 1099511627776) (fun x => i64 (Lib.indexByte x.1 x.2))
theorem g83_eq {s : List UInt8} {c : UInt8} (h : s.length ≤ 1099511627776) : g83 [.str s, .str [c]] = some (.int .i64 (Lib.indexByte s c)) := encSpec_eq (x := (s, c)) h fun y hy => by
  obtain ⟨y1, y2⟩ := y
  simp only [List.cons.injEq, and_true, D.str.injEq] at hy
  rw [hy.1, hy.2]
noncomputable def Γi : FuncId → Option CSpec := fun f => if f = 109 then some (.pure true g109) else none
theorem Γi_ok : ∀ f s, Γi f = some s → SpecOK Try.prog f s := by
  intro f s h
  unfold Γi at h
  split at h
  · rename_i hf; cases h; subst hf; exact f109_ok
  · cases h
theorem f83_ok : PureOK Try.prog 83 true g83 := by
  have hΓ := Γi_ok
  refine pure_enc (n := 143) (rs := [.tmp 4]) Try.func83 (by kernel_rfl) rfl (by kernel_rfl) (by kernel_rfl) ?_
  rintro ⟨s, c⟩ hs
  dsimp only at hs
  refine ⟨fun _ => .int _ _, fun k hz0 => ?_⟩
  have e109 := g109_eq s c
  have h10 : (((1 : Nat) : Int) == 0) = false := rfl
  have h11 : (((1 : Nat) : Int) == 1) = true := rfl
  rw [start_frame (by simp)]; simp only [enumV, go_sem, emptyH]
  by_cases hq : s = [c]
  · subst hq
    have e0 : Lib.indexByte [c] c = 0 := by simp [Lib.indexByte]
    have hqq : ([c] == [c]) = true := by simp
    repeat (first
      | refine awp_seq ?_ | refine awp_block ?_ | refine awp_ret ?_ | refine awp_skip ?_ | refine awp_exit ?_ | refine awp_label ?_
      | refine then_normal ?_ | refine then_ret ?_ | refine then_exit ?_ | refine block_normal ?_ | refine block_ret ?_ | refine block_exit ?_ | refine block_out rfl ?_
      | (apply awp_reg hΓ; (focus (simp (disch := omega) only [go_sem, ↓reduceIte, decide_eq_true, decide_eq_false, if_pos, if_neg, wrap_in, maxLen, Γi, h10, h11, hqq]; with_reducible rfl)))
      | (apply awp_regf mixedOK hΓ (by kernel_rfl); (focus (simp (disch := omega) only [go_sem, ↓reduceIte, decide_eq_true, decide_eq_false, if_pos, if_neg, wrap_in, maxLen, Γi, h10, h11, hqq]; with_reducible rfl)); (focus (simp only [go_sem]; with_reducible rfl)))
      | (apply awp_regt mixedOK hΓ rfl; (focus kernel_rfl); (focus (simp (disch := omega) only [go_sem, ↓reduceIte, decide_eq_true, decide_eq_false, if_pos, if_neg, wrap_in, maxLen, Γi, h10, h11, hqq]; with_reducible rfl)); (focus (simp only [go_sem]; with_reducible rfl)); (focus (simp (disch := omega) only [go_sem, ↓reduceIte, decide_eq_true, decide_eq_false, if_pos, if_neg, wrap_in, maxLen, Γi, h10, h11, hqq]; with_reducible rfl)))
      | (apply awp_cond_t; (focus (simp (disch := omega) only [go_sem, ↓reduceIte, decide_eq_true, decide_eq_false, if_pos, if_neg, wrap_in, maxLen, Γi, h10, h11, hqq]; done))) | (apply awp_cond_f; (focus (simp (disch := omega) only [go_sem, ↓reduceIte, decide_eq_true, decide_eq_false, if_pos, if_neg, wrap_in, maxLen, Γi, h10, h11, hqq]; done)))
      | (apply ret_e; (focus (simp (disch := omega) only [go_sem, ↓reduceIte, decide_eq_true, decide_eq_false, if_pos, if_neg, wrap_in, maxLen, Γi, h10, h11, hqq]; with_reducible rfl)); (focus (simp (disch := omega) only [go_sem, ↓reduceIte, decide_eq_true, decide_eq_false, if_pos, if_neg, wrap_in, maxLen, Γi, h10, h11, hqq]; with_reducible rfl))) | (apply end_e; (focus (simp (disch := omega) only [go_sem, ↓reduceIte, decide_eq_true, decide_eq_false, if_pos, if_neg, wrap_in, maxLen, Γi, h10, h11, hqq]; with_reducible rfl)); (focus (simp (disch := omega) only [go_sem, ↓reduceIte, decide_eq_true, decide_eq_false, if_pos, if_neg, wrap_in, maxLen, Γi, h10, h11, hqq]; with_reducible rfl)))
      | rfl)
    rw [e0]
  · have hqq : ([c] == s) = false := by
      rw [beq_eq_false_iff_ne]
      exact fun h => hq h.symm
    have t0 : (0 : Int).toNat = 0 := rfl
    repeat (first
      | refine awp_seq ?_ | refine awp_block ?_ | refine awp_ret ?_ | refine awp_skip ?_ | refine awp_exit ?_ | refine awp_label ?_
      | refine then_normal ?_ | refine then_ret ?_ | refine then_exit ?_ | refine block_normal ?_ | refine block_ret ?_ | refine block_exit ?_ | refine block_out rfl ?_
      | (apply awp_reg hΓ; (focus (simp (disch := omega) only [go_sem, ↓reduceIte, decide_eq_true, decide_eq_false, if_pos, if_neg, wrap_in, maxLen, Γi, h10, h11, hqq, t0, e109]; with_reducible rfl)))
      | (apply awp_regf mixedOK hΓ (by kernel_rfl); (focus (simp (disch := omega) only [go_sem, ↓reduceIte, decide_eq_true, decide_eq_false, if_pos, if_neg, wrap_in, maxLen, Γi, h10, h11, hqq, t0, e109]; with_reducible rfl)); (focus (simp only [go_sem]; with_reducible rfl)))
      | (apply awp_regt mixedOK hΓ rfl; (focus kernel_rfl); (focus (simp (disch := omega) only [go_sem, ↓reduceIte, decide_eq_true, decide_eq_false, if_pos, if_neg, wrap_in, maxLen, Γi, h10, h11, hqq, t0, e109]; with_reducible rfl)); (focus (simp only [go_sem]; with_reducible rfl)); (focus (simp (disch := omega) only [go_sem, ↓reduceIte, decide_eq_true, decide_eq_false, if_pos, if_neg, wrap_in, maxLen, Γi, h10, h11, hqq, t0, e109]; with_reducible rfl)))
      | (apply awp_cond_t; (focus (simp (disch := omega) only [go_sem, ↓reduceIte, decide_eq_true, decide_eq_false, if_pos, if_neg, wrap_in, maxLen, Γi, h10, h11, hqq, t0, e109]; done))) | (apply awp_cond_f; (focus (simp (disch := omega) only [go_sem, ↓reduceIte, decide_eq_true, decide_eq_false, if_pos, if_neg, wrap_in, maxLen, Γi, h10, h11, hqq, t0, e109]; done)))
      | (apply ret_e; (focus (simp (disch := omega) only [go_sem, ↓reduceIte, decide_eq_true, decide_eq_false, if_pos, if_neg, wrap_in, maxLen, Γi, h10, h11, hqq, t0, e109]; with_reducible rfl)); (focus (simp (disch := omega) only [go_sem, ↓reduceIte, decide_eq_true, decide_eq_false, if_pos, if_neg, wrap_in, maxLen, Γi, h10, h11, hqq, t0, e109]; with_reducible rfl))) | (apply end_e; (focus (simp (disch := omega) only [go_sem, ↓reduceIte, decide_eq_true, decide_eq_false, if_pos, if_neg, wrap_in, maxLen, Γi, h10, h11, hqq, t0, e109]; with_reducible rfl)); (focus (simp (disch := omega) only [go_sem, ↓reduceIte, decide_eq_true, decide_eq_false, if_pos, if_neg, wrap_in, maxLen, Γi, h10, h11, hqq, t0, e109]; with_reducible rfl)))
      | rfl)
theorem t1 : True := trivial
def cutA (s : List UInt8) (c : UInt8) : D := if fb s c < s.length then .tup [.str (s.take (fb s c)), .str (s.drop (fb s c + 1)), .bool true] else .tup [.str s, .str [], .bool false]
theorem cutA_flat (s : List UInt8) (c : UInt8) : (cutA s c).Flat := by
  unfold cutA
  split <;> exact .tup _ fun d hd => by
    simp only [List.mem_cons, List.not_mem_nil, or_false] at hd
    rcases hd with rfl | rfl | rfl
    · exact .str _
    · exact .str _
    · exact .bool _
noncomputable def g58 : List D → Option D := encSpec (fun x : List UInt8 × UInt8 => [.str x.1, .str [x.2]]) (fun x => x.1.length ≤ 1099511627776) (fun x => cutA x.1 x.2)
theorem g58_eq {s : List UInt8} {c : UInt8} (h : s.length ≤ 1099511627776) : g58 [.str s, .str [c]] = some (cutA s c) := encSpec_eq (x := (s, c)) h fun y hy => by
  obtain ⟨y1, y2⟩ := y
  simp only [List.cons.injEq, and_true, D.str.injEq] at hy
  rw [hy.1, hy.2]
noncomputable def Γx : FuncId → Option CSpec := fun f => if f = 83 then some (.pure true g83) else none
theorem Γx_ok : ∀ f s, Γx f = some s → SpecOK Try.prog f s := by
  intro f s h
  unfold Γx at h
  split at h
  · rename_i hf; cases h; subst hf; exact f83_ok
  · cases h
theorem f58_ok : PureOK Try.prog 58 true g58 := by
  have hΓ := Γx_ok
  refine pure_enc (n := 23) (rs := [.tmp 4, .tmp 5, .tmp 6]) Try.func58 (by kernel_rfl) rfl (by kernel_rfl) (by kernel_rfl) ?_
  rintro ⟨s, c⟩ hs
  dsimp only at hs
  refine ⟨fun _ => cutA_flat _ _, fun k hz0 => ?_⟩
  have e83 := g83_eq (c := c) hs
  rw [index_fb] at e83
  unfold cutA
  rw [start_frame (by simp)]; simp only [enumV, go_sem, emptyH]
  by_cases hf : fb s c < s.length
  · rw [if_pos hf] at e83 ⊢
    generalize hn : fb s c = n at *
    have tn : ((n : Int) + ((1 : Nat) : Int)).toNat = n + 1 := by omega
    have td : (s.drop (n + 1)).take (s.length - (n + 1)) = s.drop (n + 1) := List.take_of_length_le (by simp)
    repeat (first
      | refine awp_seq ?_ | refine awp_block ?_ | refine awp_ret ?_ | refine awp_skip ?_ | refine awp_exit ?_ | refine awp_label ?_
      | refine then_normal ?_ | refine then_ret ?_ | refine then_exit ?_ | refine block_normal ?_ | refine block_ret ?_ | refine block_exit ?_ | refine block_out rfl ?_
      | (apply awp_reg hΓ; (focus (simp (disch := omega) only [go_sem, ↓reduceIte, decide_eq_true, decide_eq_false, if_pos, if_neg, wrap_in, maxLen, Γx, e83, tn, td, Nat.sub_zero]; with_reducible rfl)))
      | (apply awp_regf mixedOK hΓ (by kernel_rfl); (focus (simp (disch := omega) only [go_sem, ↓reduceIte, decide_eq_true, decide_eq_false, if_pos, if_neg, wrap_in, maxLen, Γx, e83, tn, td, Nat.sub_zero]; with_reducible rfl)); (focus (simp only [go_sem]; with_reducible rfl)))
      | (apply awp_regt mixedOK hΓ rfl; (focus kernel_rfl); (focus (simp (disch := omega) only [go_sem, ↓reduceIte, decide_eq_true, decide_eq_false, if_pos, if_neg, wrap_in, maxLen, Γx, e83, tn, td, Nat.sub_zero]; with_reducible rfl)); (focus (simp only [go_sem]; with_reducible rfl)); (focus (simp (disch := omega) only [go_sem, ↓reduceIte, decide_eq_true, decide_eq_false, if_pos, if_neg, wrap_in, maxLen, Γx, e83, tn, td, Nat.sub_zero]; with_reducible rfl)))
      | (apply awp_cond_t; (focus (simp (disch := omega) only [go_sem, ↓reduceIte, decide_eq_true, decide_eq_false, if_pos, if_neg, wrap_in, maxLen, Γx, e83, tn, td, Nat.sub_zero]; done))) | (apply awp_cond_f; (focus (simp (disch := omega) only [go_sem, ↓reduceIte, decide_eq_true, decide_eq_false, if_pos, if_neg, wrap_in, maxLen, Γx, e83, tn, td, Nat.sub_zero]; done)))
      | (apply ret_e; (focus (simp (disch := omega) only [go_sem, ↓reduceIte, decide_eq_true, decide_eq_false, if_pos, if_neg, wrap_in, maxLen, Γx, e83, tn, td, Nat.sub_zero]; with_reducible rfl)); (focus (simp (disch := omega) only [go_sem, ↓reduceIte, decide_eq_true, decide_eq_false, if_pos, if_neg, wrap_in, maxLen, Γx, e83, tn, td, Nat.sub_zero]; with_reducible rfl))) | (apply end_e; (focus (simp (disch := omega) only [go_sem, ↓reduceIte, decide_eq_true, decide_eq_false, if_pos, if_neg, wrap_in, maxLen, Γx, e83, tn, td, Nat.sub_zero]; with_reducible rfl)); (focus (simp (disch := omega) only [go_sem, ↓reduceIte, decide_eq_true, decide_eq_false, if_pos, if_neg, wrap_in, maxLen, Γx, e83, tn, td, Nat.sub_zero]; with_reducible rfl)))
      | rfl)
  · rw [if_neg hf] at e83 ⊢
    repeat (first
      | refine awp_seq ?_ | refine awp_block ?_ | refine awp_ret ?_ | refine awp_skip ?_ | refine awp_exit ?_ | refine awp_label ?_
      | refine then_normal ?_ | refine then_ret ?_ | refine then_exit ?_ | refine block_normal ?_ | refine block_ret ?_ | refine block_exit ?_ | refine block_out rfl ?_
      | (apply awp_reg hΓ; (focus (simp (disch := omega) only [go_sem, ↓reduceIte, decide_eq_true, decide_eq_false, if_pos, if_neg, wrap_in, maxLen, Γx, e83]; with_reducible rfl)))
      | (apply awp_regf mixedOK hΓ (by kernel_rfl); (focus (simp (disch := omega) only [go_sem, ↓reduceIte, decide_eq_true, decide_eq_false, if_pos, if_neg, wrap_in, maxLen, Γx, e83]; with_reducible rfl)); (focus (simp only [go_sem]; with_reducible rfl)))
      | (apply awp_regt mixedOK hΓ rfl; (focus kernel_rfl); (focus (simp (disch := omega) only [go_sem, ↓reduceIte, decide_eq_true, decide_eq_false, if_pos, if_neg, wrap_in, maxLen, Γx, e83]; with_reducible rfl)); (focus (simp only [go_sem]; with_reducible rfl)); (focus (simp (disch := omega) only [go_sem, ↓reduceIte, decide_eq_true, decide_eq_false, if_pos, if_neg, wrap_in, maxLen, Γx, e83]; with_reducible rfl)))
      | (apply awp_cond_t; (focus (simp (disch := omega) only [go_sem, ↓reduceIte, decide_eq_true, decide_eq_false, if_pos, if_neg, wrap_in, maxLen, Γx, e83]; done))) | (apply awp_cond_f; (focus (simp (disch := omega) only [go_sem, ↓reduceIte, decide_eq_true, decide_eq_false, if_pos, if_neg, wrap_in, maxLen, Γx, e83]; done)))
      | (apply ret_e; (focus (simp (disch := omega) only [go_sem, ↓reduceIte, decide_eq_true, decide_eq_false, if_pos, if_neg, wrap_in, maxLen, Γx, e83]; with_reducible rfl)); (focus (simp (disch := omega) only [go_sem, ↓reduceIte, decide_eq_true, decide_eq_false, if_pos, if_neg, wrap_in, maxLen, Γx, e83]; with_reducible rfl))) | (apply end_e; (focus (simp (disch := omega) only [go_sem, ↓reduceIte, decide_eq_true, decide_eq_false, if_pos, if_neg, wrap_in, maxLen, Γx, e83]; with_reducible rfl)); (focus (simp (disch := omega) only [go_sem, ↓reduceIte, decide_eq_true, decide_eq_false, if_pos, if_neg, wrap_in, maxLen, Γx, e83]; with_reducible rfl)))
      | rfl)
noncomputable def Γy : FuncId → Option CSpec := fun f => if f = 58 then some (.pure true g58) else none
theorem Γy_ok : ∀ f s, Γy f = some s → SpecOK Try.prog f s := by
  intro f s h
  unfold Γy at h
  split at h
  · rename_i hf; cases h; subst hf; exact f58_ok
  · cases h
theorem f38_ok : PureOK Try.prog 38 true g58 := by
  have hΓ := Γy_ok
  refine pure_enc (n := 13) (rs := [.tmp 4, .tmp 5, .tmp 6]) Try.func38 (by kernel_rfl) rfl (by kernel_rfl) (by kernel_rfl) ?_
  rintro ⟨s, c⟩ hs
  dsimp only at hs
  refine ⟨fun _ => cutA_flat _ _, fun k hz0 => ?_⟩
  have e58 := g58_eq (c := c) hs
  unfold cutA at e58 ⊢
  rw [start_frame (by simp)]; simp only [enumV, go_sem, emptyH]
  by_cases hf : fb s c < s.length
  · rw [if_pos hf] at e58 ⊢
    repeat (first
      | refine awp_seq ?_ | refine awp_block ?_ | refine awp_ret ?_ | refine awp_skip ?_ | refine awp_exit ?_ | refine awp_label ?_
      | refine then_normal ?_ | refine then_ret ?_ | refine then_exit ?_ | refine block_normal ?_ | refine block_ret ?_ | refine block_exit ?_ | refine block_out rfl ?_
      | (apply awp_reg hΓ; (focus (simp (disch := omega) only [go_sem, ↓reduceIte, decide_eq_true, decide_eq_false, if_pos, if_neg, wrap_in, maxLen, Γy, e58]; with_reducible rfl)))
      | (apply awp_regf mixedOK hΓ (by kernel_rfl); (focus (simp (disch := omega) only [go_sem, ↓reduceIte, decide_eq_true, decide_eq_false, if_pos, if_neg, wrap_in, maxLen, Γy, e58]; with_reducible rfl)); (focus (simp only [go_sem]; with_reducible rfl)))
      | (apply awp_regt mixedOK hΓ rfl; (focus kernel_rfl); (focus (simp (disch := omega) only [go_sem, ↓reduceIte, decide_eq_true, decide_eq_false, if_pos, if_neg, wrap_in, maxLen, Γy, e58]; with_reducible rfl)); (focus (simp only [go_sem]; with_reducible rfl)); (focus (simp (disch := omega) only [go_sem, ↓reduceIte, decide_eq_true, decide_eq_false, if_pos, if_neg, wrap_in, maxLen, Γy, e58]; with_reducible rfl)))
      | (apply awp_cond_t; (focus (simp (disch := omega) only [go_sem, ↓reduceIte, decide_eq_true, decide_eq_false, if_pos, if_neg, wrap_in, maxLen, Γy, e58]; done))) | (apply awp_cond_f; (focus (simp (disch := omega) only [go_sem, ↓reduceIte, decide_eq_true, decide_eq_false, if_pos, if_neg, wrap_in, maxLen, Γy, e58]; done)))
      | (apply ret_e; (focus (simp (disch := omega) only [go_sem, ↓reduceIte, decide_eq_true, decide_eq_false, if_pos, if_neg, wrap_in, maxLen, Γy, e58]; with_reducible rfl)); (focus (simp (disch := omega) only [go_sem, ↓reduceIte, decide_eq_true, decide_eq_false, if_pos, if_neg, wrap_in, maxLen, Γy, e58]; with_reducible rfl))) | (apply end_e; (focus (simp (disch := omega) only [go_sem, ↓reduceIte, decide_eq_true, decide_eq_false, if_pos, if_neg, wrap_in, maxLen, Γy, e58]; with_reducible rfl)); (focus (simp (disch := omega) only [go_sem, ↓reduceIte, decide_eq_true, decide_eq_false, if_pos, if_neg, wrap_in, maxLen, Γy, e58]; with_reducible rfl)))
      | rfl)
  · rw [if_neg hf] at e58 ⊢
    repeat (first
      | refine awp_seq ?_ | refine awp_block ?_ | refine awp_ret ?_ | refine awp_skip ?_ | refine awp_exit ?_ | refine awp_label ?_
      | refine then_normal ?_ | refine then_ret ?_ | refine then_exit ?_ | refine block_normal ?_ | refine block_ret ?_ | refine block_exit ?_ | refine block_out rfl ?_
      | (apply awp_reg hΓ; (focus (simp (disch := omega) only [go_sem, ↓reduceIte, decide_eq_true, decide_eq_false, if_pos, if_neg, wrap_in, maxLen, Γy, e58]; with_reducible rfl)))
      | (apply awp_regf mixedOK hΓ (by kernel_rfl); (focus (simp (disch := omega) only [go_sem, ↓reduceIte, decide_eq_true, decide_eq_false, if_pos, if_neg, wrap_in, maxLen, Γy, e58]; with_reducible rfl)); (focus (simp only [go_sem]; with_reducible rfl)))
      | (apply awp_regt mixedOK hΓ rfl; (focus kernel_rfl); (focus (simp (disch := omega) only [go_sem, ↓reduceIte, decide_eq_true, decide_eq_false, if_pos, if_neg, wrap_in, maxLen, Γy, e58]; with_reducible rfl)); (focus (simp only [go_sem]; with_reducible rfl)); (focus (simp (disch := omega) only [go_sem, ↓reduceIte, decide_eq_true, decide_eq_false, if_pos, if_neg, wrap_in, maxLen, Γy, e58]; with_reducible rfl)))
      | (apply awp_cond_t; (focus (simp (disch := omega) only [go_sem, ↓reduceIte, decide_eq_true, decide_eq_false, if_pos, if_neg, wrap_in, maxLen, Γy, e58]; done))) | (apply awp_cond_f; (focus (simp (disch := omega) only [go_sem, ↓reduceIte, decide_eq_true, decide_eq_false, if_pos, if_neg, wrap_in, maxLen, Γy, e58]; done)))
      | (apply ret_e; (focus (simp (disch := omega) only [go_sem, ↓reduceIte, decide_eq_true, decide_eq_false, if_pos, if_neg, wrap_in, maxLen, Γy, e58]; with_reducible rfl)); (focus (simp (disch := omega) only [go_sem, ↓reduceIte, decide_eq_true, decide_eq_false, if_pos, if_neg, wrap_in, maxLen, Γy, e58]; with_reducible rfl))) | (apply end_e; (focus (simp (disch := omega) only [go_sem, ↓reduceIte, decide_eq_true, decide_eq_false, if_pos, if_neg, wrap_in, maxLen, Γy, e58]; with_reducible rfl)); (focus (simp (disch := omega) only [go_sem, ↓reduceIte, decide_eq_true, decide_eq_false, if_pos, if_neg, wrap_in, maxLen, Γy, e58]; with_reducible rfl)))
      | rfl)

/-! ### The package of a question -/
def pkg (s : List UInt8) : List UInt8 := (s.drop (fb s 58 + 1)).take (fb (s.drop (fb s 58 + 1)) 47)
noncomputable def g12 : List D → Option D := encSpec (fun s : List UInt8 => [.str s]) (fun s => s.length ≤ 1099511627776) (fun s => .str (pkg s))
theorem g12_eq {s : List UInt8} (h : s.length ≤ 1099511627776) : g12 [.str s] = some (.str (pkg s)) := encSpec_eq (x := s) h fun y hy => by
  simp only [List.cons.injEq, and_true, D.str.injEq] at hy
  rw [hy]
noncomputable def Γz : FuncId → Option CSpec := fun f => if f = 38 then some (.pure true g58) else none
theorem Γz_ok : ∀ f s, Γz f = some s → SpecOK Try.prog f s := by
  intro f s h
  unfold Γz at h
  split at h
  · rename_i hf; cases h; subst hf; exact f38_ok
  · cases h
theorem f12_ok : PureOK Try.prog 12 true g12 := by
  have hΓ := Γz_ok
  refine pure_enc (n := 22) (rs := [.tmp 2]) Try.func12 (by kernel_rfl) rfl (by kernel_rfl) (by kernel_rfl) ?_
  intro s hs
  refine ⟨fun _ => .str _, fun k hz0 => ?_⟩
  have e1 := g58_eq (c := 58) hs
  have fin : ∀ r : List UInt8, r.length ≤ 1099511627776 → ∃ a b c, g58 [.str r, .str [47]] = some (.tup [.str a, .str b, .bool c]) ∧ a = r.take (fb r 47) := fun r hr => by
    rw [g58_eq hr]
    unfold cutA
    by_cases h : fb r 47 < r.length
    · exact ⟨_, _, _, by rw [if_pos h], rfl⟩
    · exact ⟨_, _, _, by rw [if_neg h], (List.take_of_length_le (by omega)).symm⟩
  unfold cutA at e1
  rw [start_frame (by simp)]; simp only [enumV, go_sem, emptyH]
  by_cases hf : fb s 58 < s.length
  · rw [if_pos hf] at e1
    obtain ⟨a, b, c, e2, ha⟩ := fin (s.drop (fb s 58 + 1)) (by simp; omega)
    repeat (first
      | refine awp_seq ?_ | refine awp_block ?_ | refine awp_ret ?_ | refine awp_skip ?_ | refine awp_exit ?_ | refine awp_label ?_
      | refine then_normal ?_ | refine then_ret ?_ | refine then_exit ?_ | refine block_normal ?_ | refine block_ret ?_ | refine block_exit ?_ | refine block_out rfl ?_
      | (apply awp_reg hΓ; (focus (simp (disch := omega) only [go_sem, ↓reduceIte, decide_eq_true, decide_eq_false, if_pos, if_neg, wrap_in, maxLen, Γz, e1, e2]; with_reducible rfl)))
      | (apply awp_regf mixedOK hΓ (by kernel_rfl); (focus (simp (disch := omega) only [go_sem, ↓reduceIte, decide_eq_true, decide_eq_false, if_pos, if_neg, wrap_in, maxLen, Γz, e1, e2]; with_reducible rfl)); (focus (simp only [go_sem]; with_reducible rfl)))
      | (apply awp_regt mixedOK hΓ rfl; (focus kernel_rfl); (focus (simp (disch := omega) only [go_sem, ↓reduceIte, decide_eq_true, decide_eq_false, if_pos, if_neg, wrap_in, maxLen, Γz, e1, e2]; with_reducible rfl)); (focus (simp only [go_sem]; with_reducible rfl)); (focus (simp (disch := omega) only [go_sem, ↓reduceIte, decide_eq_true, decide_eq_false, if_pos, if_neg, wrap_in, maxLen, Γz, e1, e2]; with_reducible rfl)))
      | (apply awp_cond_t; (focus (simp (disch := omega) only [go_sem, ↓reduceIte, decide_eq_true, decide_eq_false, if_pos, if_neg, wrap_in, maxLen, Γz, e1, e2]; done))) | (apply awp_cond_f; (focus (simp (disch := omega) only [go_sem, ↓reduceIte, decide_eq_true, decide_eq_false, if_pos, if_neg, wrap_in, maxLen, Γz, e1, e2]; done)))
      | (apply ret_e; (focus (simp (disch := omega) only [go_sem, ↓reduceIte, decide_eq_true, decide_eq_false, if_pos, if_neg, wrap_in, maxLen, Γz, e1, e2]; with_reducible rfl)); (focus (simp (disch := omega) only [go_sem, ↓reduceIte, decide_eq_true, decide_eq_false, if_pos, if_neg, wrap_in, maxLen, Γz, e1, e2]; with_reducible rfl))) | (apply end_e; (focus (simp (disch := omega) only [go_sem, ↓reduceIte, decide_eq_true, decide_eq_false, if_pos, if_neg, wrap_in, maxLen, Γz, e1, e2]; with_reducible rfl)); (focus (simp (disch := omega) only [go_sem, ↓reduceIte, decide_eq_true, decide_eq_false, if_pos, if_neg, wrap_in, maxLen, Γz, e1, e2]; with_reducible rfl)))
      | rfl)
    rw [ha]
    rfl
  · rw [if_neg hf] at e1
    obtain ⟨a, b, c, e2, ha⟩ := fin [] (by simp)
    repeat (first
      | refine awp_seq ?_ | refine awp_block ?_ | refine awp_ret ?_ | refine awp_skip ?_ | refine awp_exit ?_ | refine awp_label ?_
      | refine then_normal ?_ | refine then_ret ?_ | refine then_exit ?_ | refine block_normal ?_ | refine block_ret ?_ | refine block_exit ?_ | refine block_out rfl ?_
      | (apply awp_reg hΓ; (focus (simp (disch := omega) only [go_sem, ↓reduceIte, decide_eq_true, decide_eq_false, if_pos, if_neg, wrap_in, maxLen, Γz, e1, e2]; with_reducible rfl)))
      | (apply awp_regf mixedOK hΓ (by kernel_rfl); (focus (simp (disch := omega) only [go_sem, ↓reduceIte, decide_eq_true, decide_eq_false, if_pos, if_neg, wrap_in, maxLen, Γz, e1, e2]; with_reducible rfl)); (focus (simp only [go_sem]; with_reducible rfl)))
      | (apply awp_regt mixedOK hΓ rfl; (focus kernel_rfl); (focus (simp (disch := omega) only [go_sem, ↓reduceIte, decide_eq_true, decide_eq_false, if_pos, if_neg, wrap_in, maxLen, Γz, e1, e2]; with_reducible rfl)); (focus (simp only [go_sem]; with_reducible rfl)); (focus (simp (disch := omega) only [go_sem, ↓reduceIte, decide_eq_true, decide_eq_false, if_pos, if_neg, wrap_in, maxLen, Γz, e1, e2]; with_reducible rfl)))
      | (apply awp_cond_t; (focus (simp (disch := omega) only [go_sem, ↓reduceIte, decide_eq_true, decide_eq_false, if_pos, if_neg, wrap_in, maxLen, Γz, e1, e2]; done))) | (apply awp_cond_f; (focus (simp (disch := omega) only [go_sem, ↓reduceIte, decide_eq_true, decide_eq_false, if_pos, if_neg, wrap_in, maxLen, Γz, e1, e2]; done)))
      | (apply ret_e; (focus (simp (disch := omega) only [go_sem, ↓reduceIte, decide_eq_true, decide_eq_false, if_pos, if_neg, wrap_in, maxLen, Γz, e1, e2]; with_reducible rfl)); (focus (simp (disch := omega) only [go_sem, ↓reduceIte, decide_eq_true, decide_eq_false, if_pos, if_neg, wrap_in, maxLen, Γz, e1, e2]; with_reducible rfl))) | (apply end_e; (focus (simp (disch := omega) only [go_sem, ↓reduceIte, decide_eq_true, decide_eq_false, if_pos, if_neg, wrap_in, maxLen, Γz, e1, e2]; with_reducible rfl)); (focus (simp (disch := omega) only [go_sem, ↓reduceIte, decide_eq_true, decide_eq_false, if_pos, if_neg, wrap_in, maxLen, Γz, e1, e2]; with_reducible rfl)))
      | rfl)
    rw [ha]
    simp only [pkg]
    rw [List.drop_eq_nil_of_le (by omega)]
theorem fb_lt {s : List UInt8} {c : UInt8} {i : Nat} (h : i < fb s c) (hl : i < s.length) : (s[i] == c) = false := by
  have := List.not_of_lt_findIdx (p := (· == c)) (xs := s) h
  simpa using this
theorem fb_at {s : List UInt8} {c : UInt8} (h : fb s c < s.length) : (s[fb s c] == c) = true := List.findIdx_getElem (p := (· == c)) (xs := s) (w := h)
end Go.Ab
