/-
  One text of the proof (own work): contracts of functions of the program, by the abstract machine.
-/
import Derived.Test.YtpecnbkfahekdaaA9
set_option linter.unusedVariables false
set_option linter.unusedSimpArgs false
namespace Go.Ab
open Go Go.RowKit Go.Proofs
set_option maxRecDepth 4000
set_option maxHeartbeats 2000000

def s45 : List D → Option D
  | [.int .i64 a, .int .i64 b] => some (.bool (decide (a < b)))
  | _ => none
theorem f45_ok : PureOK Try.prog 45 true s45 := by
  have hΓ := Γ1_ok
  refine pure_of_awp (n := 17) (rs := [.tmp 4]) Try.func45 (by kernel_rfl) rfl (by kernel_rfl) (by kernel_rfl) fun ds d hd => ?_
  unfold s45 at hd
  split at hd
  · rename_i a b
    simp only [Option.some.injEq] at hd
    subst hd
    refine ⟨fun _ => .bool _, fun c hz0 => ?_⟩
    simp only [start, go_sem, emptyH, List.replicate_succ, List.replicate_zero]
    repeat (first
      | refine awp_seq ?_ | refine awp_block ?_ | refine awp_ret ?_ | refine awp_skip ?_ | refine awp_exit ?_ | refine awp_label ?_
      | refine then_normal ?_ | refine then_ret ?_ | refine then_exit ?_ | refine block_normal ?_ | refine block_ret ?_ | refine block_exit ?_ | refine block_out rfl ?_
      | (apply awp_reg hΓ; (focus (simp (disch := omega) only [go_sem, Γ1, s54]; with_reducible rfl)))
      | (apply awp_regf mixedOK hΓ (by kernel_rfl); (focus (simp (disch := omega) only [go_sem, Γ1, s54]; with_reducible rfl)); (focus (simp only [go_sem]; with_reducible rfl)))
      | (apply awp_regt mixedOK hΓ rfl; (focus kernel_rfl); (focus (simp (disch := omega) only [go_sem, Γ1, s54]; with_reducible rfl)); (focus (simp only [go_sem]; with_reducible rfl)); (focus (simp (disch := omega) only [go_sem, Γ1, s54]; with_reducible rfl)))
      | (apply awp_cond_t; (focus (simp (disch := omega) only [go_sem, Γ1, s54]; done))) | (apply awp_cond_f; (focus (simp (disch := omega) only [go_sem, Γ1, s54]; done)))
      | (apply ret_e; (focus (simp (disch := omega) only [go_sem, Γ1, s54]; with_reducible rfl)); (focus (simp (disch := omega) only [go_sem, Γ1, s54]; with_reducible rfl))) | (apply end_e; (focus (simp (disch := omega) only [go_sem, Γ1, s54]; with_reducible rfl)); (focus (simp (disch := omega) only [go_sem, Γ1, s54]; with_reducible rfl)))
      | rfl)
  · cases hd
theorem f56_ok : PureOK Try.prog 56 true s54 := by
  have hΓ : ∀ f s, Γ0 f = some s → SpecOK Try.prog f s := fun _ _ h => by cases h
  refine pure_of_awp (n := 6) (rs := [.tmp 2]) Try.func56 (by kernel_rfl) rfl (by kernel_rfl) (by kernel_rfl) fun ds d hd => ?_
  unfold s54 at hd
  split at hd
  · rename_i k n
    simp only [Option.some.injEq] at hd
    subst hd
    refine ⟨fun _ => .bool _, fun c hz0 => ?_⟩
    simp only [start, go_sem, emptyH, List.replicate_succ, List.replicate_zero]
    repeat (first
      | refine awp_seq ?_ | refine awp_block ?_ | refine awp_ret ?_ | refine awp_skip ?_ | refine awp_exit ?_ | refine awp_label ?_
      | refine then_normal ?_ | refine then_ret ?_ | refine then_exit ?_ | refine block_normal ?_ | refine block_ret ?_ | refine block_exit ?_ | refine block_out rfl ?_
      | (apply awp_reg hΓ; (focus (simp (disch := omega) only [go_sem, bne_self_eq_false]; with_reducible rfl)))
      | (apply awp_regf mixedOK hΓ (by kernel_rfl); (focus (simp (disch := omega) only [go_sem, bne_self_eq_false]; with_reducible rfl)); (focus (simp only [go_sem]; with_reducible rfl)))
      | (apply awp_regt mixedOK hΓ rfl; (focus kernel_rfl); (focus (simp (disch := omega) only [go_sem, bne_self_eq_false]; with_reducible rfl)); (focus (simp only [go_sem]; with_reducible rfl)); (focus (simp (disch := omega) only [go_sem, bne_self_eq_false]; with_reducible rfl)))
      | (apply awp_cond_t; (focus (simp (disch := omega) only [go_sem, bne_self_eq_false]; done))) | (apply awp_cond_f; (focus (simp (disch := omega) only [go_sem, bne_self_eq_false]; done)))
      | (apply ret_e; (focus (simp (disch := omega) only [go_sem, bne_self_eq_false]; with_reducible rfl)); (focus (simp (disch := omega) only [go_sem, bne_self_eq_false]; with_reducible rfl))) | (apply end_e; (focus (simp (disch := omega) only [go_sem, bne_self_eq_false]; with_reducible rfl)); (focus (simp (disch := omega) only [go_sem, bne_self_eq_false]; with_reducible rfl)))
      | rfl)
  · cases hd

/-- How many are less. -/
def lessN (l : List Int) (x : Int) : Nat := (l.filter fun y => decide (y < x)).length
theorem lessN_at {l : List Int} {x : Int} {i : Nat} (hi : i ≤ l.length) (h1 : ∀ k (h : k < l.length), k < i → l[k] < x) (h2 : ∀ k (h : k < l.length), i ≤ k → x ≤ l[k]) : lessN l x = i := by
  have e : l.filter (fun y => decide (y < x)) = l.take i := by
    conv => lhs; rw [← List.take_append_drop i l, List.filter_append]
    have a1 : (l.take i).filter (fun y => decide (y < x)) = l.take i := List.filter_eq_self.2 fun y hy => by
      obtain ⟨k, hk, rfl⟩ := List.getElem_of_mem hy
      rw [List.length_take] at hk
      rw [List.getElem_take]
      exact decide_eq_true (h1 k (by omega) (by omega))
    have a2 : (l.drop i).filter (fun y => decide (y < x)) = [] := List.filter_eq_nil_iff.2 fun y hy => by
      obtain ⟨k, hk, rfl⟩ := List.getElem_of_mem hy
      rw [List.length_drop] at hk
      rw [List.getElem_drop]
      have := h2 (i + k) (by omega) (by omega)
      simp
      omega
    rw [a1, a2, List.append_nil]
  rw [lessN, e, List.length_take]
  omega
noncomputable def g52 : List D → Option D := encSpec (fun x : List Int × Int => [ints x.1, i64 x.2]) (fun x => x.1.length ≤ 1099511627776 ∧ x.1.Pairwise (· < ·)) (fun x => .tup [i64 (lessN x.1 x.2), .bool (x.1.contains x.2)])
theorem g52_eq {l : List Int} {x : Int} (h : l.length ≤ 1099511627776) (hp : l.Pairwise (· < ·)) : g52 [.list (l.map i64), .int .i64 x] = some (.tup [i64 (lessN l x), .bool (l.contains x)]) :=
  encSpec_eq (x := (l, x)) ⟨h, hp⟩ fun y hy => by
    obtain ⟨y1, y2⟩ := y
    simp only [List.cons.injEq, and_true] at hy
    rw [ints_inj hy.1, i64_inj _ _ hy.2]
def Γ52 : FuncId → Option CSpec := fun f => if f = 45 then some (.pure true s45) else if f = 56 then some (.pure true s54) else none
theorem Γ52_ok : ∀ f s, Γ52 f = some s → SpecOK Try.prog f s := by
  intro f s h
  unfold Γ52 at h
  split at h
  · rename_i hf; cases h; subst hf; exact f45_ok
  split at h
  · rename_i hf; cases h; subst hf; exact f56_ok
  · cases h
theorem half_eq {a b : Nat} (h : a + b < 4611686018427387904) : ashift .shr .u64 (IntKind.u64.wrap ((a : Int) + (b : Int))) 1 = some (((a + b) / 2 : Nat) : Int) := by
  have e1 : IntKind.u64.wrap ((a : Int) + (b : Int)) = ((a + b : Nat) : Int) := by
    rw [IntKind.wrap_u64]
    omega
  have e2 : min (Int.toNat 1) IntKind.u64.bits = 1 := by decide
  rw [e1, ashift, if_neg (by decide)]
  show some (Int.fdiv ((a + b : Nat) : Int) (2 ^ (min (Int.toNat 1) IntKind.u64.bits))) = _
  rw [e2]
  show some (Int.fdiv ((a + b : Nat) : Int) 2) = _
  rw [Int.fdiv_eq_ediv_of_nonneg _ (by decide)]
  congr 1
theorem f52_ok : PureOK Try.prog 52 true g52 := by
  have hΓ := Γ52_ok
  refine pure_enc (n := 54) (rs := [.tmp 4, .tmp 5]) Try.func52 (by kernel_rfl) rfl (by kernel_rfl) (by kernel_rfl) ?_
  rintro ⟨l, x⟩ ⟨hlen, hp⟩
  dsimp only at hlen hp
  refine ⟨fun _ => .tup _ (by simp; exact ⟨.int _ _, .bool _⟩), fun c hz0 => ?_⟩
  simp only [start, go_sem, emptyH, List.replicate_succ, List.replicate_zero]
  repeat (first
    | refine awp_seq ?_ | refine awp_block ?_ | refine awp_ret ?_ | refine awp_skip ?_ | refine awp_exit ?_ | refine awp_label ?_
    | refine then_normal ?_ | refine then_ret ?_ | refine then_exit ?_ | refine block_normal ?_ | refine block_ret ?_ | refine block_exit ?_ | refine block_out rfl ?_
    | (apply awp_reg hΓ; (focus (simp (disch := omega) only [go_sem]; with_reducible rfl)))
    | (apply awp_regf mixedOK hΓ (by kernel_rfl); (focus (simp (disch := omega) only [go_sem]; with_reducible rfl)); (focus (simp only [go_sem]; with_reducible rfl)))
    | (apply awp_regt mixedOK hΓ rfl; (focus kernel_rfl); (focus (simp (disch := omega) only [go_sem]; with_reducible rfl)); (focus (simp only [go_sem]; with_reducible rfl)); (focus (simp (disch := omega) only [go_sem]; with_reducible rfl)))
    | (apply awp_cond_t; (focus (simp (disch := omega) only [go_sem]; done))) | (apply awp_cond_f; (focus (simp (disch := omega) only [go_sem]; done)))
    | (apply ret_e; (focus (simp (disch := omega) only [go_sem]; with_reducible rfl)); (focus (simp (disch := omega) only [go_sem]; with_reducible rfl))) | (apply end_e; (focus (simp (disch := omega) only [go_sem]; with_reducible rfl)); (focus (simp (disch := omega) only [go_sem]; with_reducible rfl)))
    | rfl)
  refine awp_loop_at (X := Nat × Nat) (fun y => (.data (ints l) :: .data (i64 x) :: .junk :: .junk :: .junk :: .junk :: .data (i64 l.length) :: .data (i64 y.1) :: .data (i64 y.2) :: .junk :: .junk :: .junk :: .junk :: .junk :: .junk :: .junk :: .junk :: .junk :: .junk :: .junk :: .junk :: .junk :: .junk :: .junk :: .junk :: .junk :: .junk :: .junk :: .junk :: .junk :: .junk :: .junk :: .junk :: .junk :: .junk :: .junk :: .junk :: .junk :: .junk :: .junk :: .junk :: .junk :: .junk :: .junk :: .junk :: .junk :: .junk :: .junk :: .junk :: .junk :: .junk :: .junk :: .junk :: .junk :: []))
    (fun _ => []) 0 (fun y => y.1 ≤ y.2 ∧ y.2 ≤ l.length ∧ (∀ k (h : k < l.length), k < y.1 → l[k] < x) ∧ (∀ k (h : k < l.length), y.2 ≤ k → x ≤ l[k])) (fun y => y.2 - y.1) (0, l.length)
    ⟨Nat.zero_le _, Nat.le_refl _, fun k _ h => (by omega), fun k h1 h2 => (by omega)⟩ (Weak.of (by omega) (by simp [ConvL, Conv, ints]) (by simp [TabSub, look, Obj.refsOK, refsOKs, AV.refsOK]) (by simp [refsOKs, AV.refsOK])) ?_
  rintro ⟨i, j⟩ ⟨h1, h2, h3, h4⟩
  dsimp only at h1 h2 h3 h4
  repeat (first
    | refine awp_seq ?_ | refine awp_block ?_ | refine awp_ret ?_ | refine awp_skip ?_ | refine awp_exit ?_ | refine awp_label ?_
    | refine then_normal ?_ | refine then_ret ?_ | refine then_exit ?_ | refine block_normal ?_ | refine block_ret ?_ | refine block_exit ?_ | refine block_out rfl ?_
    | (apply awp_reg hΓ; (focus (simp (disch := omega) only [go_sem, decide_eq_true, decide_eq_false, if_pos, if_neg, wrap_in, maxLen]; with_reducible rfl)))
    | (apply awp_regf mixedOK hΓ (by kernel_rfl); (focus (simp (disch := omega) only [go_sem, decide_eq_true, decide_eq_false, if_pos, if_neg, wrap_in, maxLen]; with_reducible rfl)); (focus (simp only [go_sem]; with_reducible rfl)))
    | (apply awp_regt mixedOK hΓ rfl; (focus kernel_rfl); (focus (simp (disch := omega) only [go_sem, decide_eq_true, decide_eq_false, if_pos, if_neg, wrap_in, maxLen]; with_reducible rfl)); (focus (simp only [go_sem]; with_reducible rfl)); (focus (simp (disch := omega) only [go_sem, decide_eq_true, decide_eq_false, if_pos, if_neg, wrap_in, maxLen]; with_reducible rfl)))
    | (apply awp_cond_t; (focus (simp (disch := omega) only [go_sem, decide_eq_true, decide_eq_false, if_pos, if_neg, wrap_in, maxLen]; done))) | (apply awp_cond_f; (focus (simp (disch := omega) only [go_sem, decide_eq_true, decide_eq_false, if_pos, if_neg, wrap_in, maxLen]; done)))
    | (apply ret_e; (focus (simp (disch := omega) only [go_sem, decide_eq_true, decide_eq_false, if_pos, if_neg, wrap_in, maxLen]; with_reducible rfl)); (focus (simp (disch := omega) only [go_sem, decide_eq_true, decide_eq_false, if_pos, if_neg, wrap_in, maxLen]; with_reducible rfl))) | (apply end_e; (focus (simp (disch := omega) only [go_sem, decide_eq_true, decide_eq_false, if_pos, if_neg, wrap_in, maxLen]; with_reducible rfl)); (focus (simp (disch := omega) only [go_sem, decide_eq_true, decide_eq_false, if_pos, if_neg, wrap_in, maxLen]; with_reducible rfl)))
    | rfl)
  refine awp_cond (by simp (disch := omega) only [go_sem]; rfl) (fun hc => ?_) (fun hc => ?_)
  · have hij : i < j := by simpa using hc
    have hh := half_eq (a := i) (b := j) (by omega)
    obtain ⟨m, hm⟩ : ∃ m, m = (i + j) / 2 := ⟨_, rfl⟩
    rw [← hm] at hh
    have hml : m < l.length := by omega
    have hpw : ∀ a b (ha : a < l.length) (hb : b < l.length), a < b → l[a] < l[b] := fun a b ha hb hab => List.pairwise_iff_getElem.1 hp a b ha hb hab
    by_cases k1 : l[m] < x
    · have k1d : decide (l[m] < x) = true := decide_eq_true k1
      repeat (first
        | refine awp_seq ?_ | refine awp_block ?_ | refine awp_ret ?_ | refine awp_skip ?_ | refine awp_exit ?_ | refine awp_label ?_
        | refine then_normal ?_ | refine then_ret ?_ | refine then_exit ?_ | refine block_normal ?_ | refine block_ret ?_ | refine block_exit ?_ | refine block_out rfl ?_
        | (apply awp_reg hΓ; (focus (simp (disch := omega) only [go_sem, decide_eq_true, decide_eq_false, if_pos, if_neg, wrap_in, maxLen, hh, Γ52, s45, k1d]; with_reducible rfl)))
        | (apply awp_regf mixedOK hΓ (by kernel_rfl); (focus (simp (disch := omega) only [go_sem, decide_eq_true, decide_eq_false, if_pos, if_neg, wrap_in, maxLen, hh, Γ52, s45, k1d]; with_reducible rfl)); (focus (simp only [go_sem]; with_reducible rfl)))
        | (apply awp_regt mixedOK hΓ rfl; (focus kernel_rfl); (focus (simp (disch := omega) only [go_sem, decide_eq_true, decide_eq_false, if_pos, if_neg, wrap_in, maxLen, hh, Γ52, s45, k1d]; with_reducible rfl)); (focus (simp only [go_sem]; with_reducible rfl)); (focus (simp (disch := omega) only [go_sem, decide_eq_true, decide_eq_false, if_pos, if_neg, wrap_in, maxLen, hh, Γ52, s45, k1d]; with_reducible rfl)))
        | (apply awp_cond_t; (focus (simp (disch := omega) only [go_sem, decide_eq_true, decide_eq_false, if_pos, if_neg, wrap_in, maxLen, hh, Γ52, s45, k1d]; done))) | (apply awp_cond_f; (focus (simp (disch := omega) only [go_sem, decide_eq_true, decide_eq_false, if_pos, if_neg, wrap_in, maxLen, hh, Γ52, s45, k1d]; done)))
        | (apply ret_e; (focus (simp (disch := omega) only [go_sem, decide_eq_true, decide_eq_false, if_pos, if_neg, wrap_in, maxLen, hh, Γ52, s45, k1d]; with_reducible rfl)); (focus (simp (disch := omega) only [go_sem, decide_eq_true, decide_eq_false, if_pos, if_neg, wrap_in, maxLen, hh, Γ52, s45, k1d]; with_reducible rfl))) | (apply end_e; (focus (simp (disch := omega) only [go_sem, decide_eq_true, decide_eq_false, if_pos, if_neg, wrap_in, maxLen, hh, Γ52, s45, k1d]; with_reducible rfl)); (focus (simp (disch := omega) only [go_sem, decide_eq_true, decide_eq_false, if_pos, if_neg, wrap_in, maxLen, hh, Γ52, s45, k1d]; with_reducible rfl)))
        | rfl)
      exact ⟨(m + 1, j), ⟨by dsimp only; omega, h2, fun k h hk => by
        rcases Nat.lt_or_eq_of_le (Nat.le_of_lt_succ hk) with h5 | h5
        · have := hpw k m h hml h5
          omega
        · subst h5; exact k1, h4⟩, by dsimp only; omega, Weak.of (by omega) (by simp [ConvL, Conv, ints]) (by simp [TabSub, look, Obj.refsOK, refsOKs, AV.refsOK]) (by simp [refsOKs, AV.refsOK])⟩
    · have k1d : decide (l[m] < x) = false := decide_eq_false k1
      repeat (first
        | refine awp_seq ?_ | refine awp_block ?_ | refine awp_ret ?_ | refine awp_skip ?_ | refine awp_exit ?_ | refine awp_label ?_
        | refine then_normal ?_ | refine then_ret ?_ | refine then_exit ?_ | refine block_normal ?_ | refine block_ret ?_ | refine block_exit ?_ | refine block_out rfl ?_
        | (apply awp_reg hΓ; (focus (simp (disch := omega) only [go_sem, decide_eq_true, decide_eq_false, if_pos, if_neg, wrap_in, maxLen, hh, Γ52, s45, k1d]; with_reducible rfl)))
        | (apply awp_regf mixedOK hΓ (by kernel_rfl); (focus (simp (disch := omega) only [go_sem, decide_eq_true, decide_eq_false, if_pos, if_neg, wrap_in, maxLen, hh, Γ52, s45, k1d]; with_reducible rfl)); (focus (simp only [go_sem]; with_reducible rfl)))
        | (apply awp_regt mixedOK hΓ rfl; (focus kernel_rfl); (focus (simp (disch := omega) only [go_sem, decide_eq_true, decide_eq_false, if_pos, if_neg, wrap_in, maxLen, hh, Γ52, s45, k1d]; with_reducible rfl)); (focus (simp only [go_sem]; with_reducible rfl)); (focus (simp (disch := omega) only [go_sem, decide_eq_true, decide_eq_false, if_pos, if_neg, wrap_in, maxLen, hh, Γ52, s45, k1d]; with_reducible rfl)))
        | (apply awp_cond_t; (focus (simp (disch := omega) only [go_sem, decide_eq_true, decide_eq_false, if_pos, if_neg, wrap_in, maxLen, hh, Γ52, s45, k1d]; done))) | (apply awp_cond_f; (focus (simp (disch := omega) only [go_sem, decide_eq_true, decide_eq_false, if_pos, if_neg, wrap_in, maxLen, hh, Γ52, s45, k1d]; done)))
        | (apply ret_e; (focus (simp (disch := omega) only [go_sem, decide_eq_true, decide_eq_false, if_pos, if_neg, wrap_in, maxLen, hh, Γ52, s45, k1d]; with_reducible rfl)); (focus (simp (disch := omega) only [go_sem, decide_eq_true, decide_eq_false, if_pos, if_neg, wrap_in, maxLen, hh, Γ52, s45, k1d]; with_reducible rfl))) | (apply end_e; (focus (simp (disch := omega) only [go_sem, decide_eq_true, decide_eq_false, if_pos, if_neg, wrap_in, maxLen, hh, Γ52, s45, k1d]; with_reducible rfl)); (focus (simp (disch := omega) only [go_sem, decide_eq_true, decide_eq_false, if_pos, if_neg, wrap_in, maxLen, hh, Γ52, s45, k1d]; with_reducible rfl)))
        | rfl)
      exact ⟨(i, m), ⟨by dsimp only; omega, by dsimp only; omega, h3, fun k h hk => by
        dsimp only at hk
        rcases Nat.lt_or_eq_of_le hk with h5 | h5
        · have := hpw m k hml h h5
          omega
        · subst h5; omega⟩, by dsimp only; omega, Weak.of (by omega) (by simp [ConvL, Conv, ints]) (by simp [TabSub, look, Obj.refsOK, refsOKs, AV.refsOK]) (by simp [refsOKs, AV.refsOK])⟩
  · have hij : i = j := by
      have : ¬ i < j := by simpa using hc
      omega
    subst hij
    have hn := lessN_at h2 h3 h4
    by_cases k1 : i < l.length
    · have hil := h4 i k1 (Nat.le_refl _)
      have k1d : decide (i < l.length) = true := decide_eq_true k1
      by_cases k2 : l[i] = x
      · have k2' : (l[i] == x) = true := by simpa using k2
        have hcon : l.contains x = true := by
          rw [List.contains_iff_mem, ← k2]
          exact List.getElem_mem k1
        repeat (first
          | refine awp_seq ?_ | refine awp_block ?_ | refine awp_ret ?_ | refine awp_skip ?_ | refine awp_exit ?_ | refine awp_label ?_
          | refine then_normal ?_ | refine then_ret ?_ | refine then_exit ?_ | refine block_normal ?_ | refine block_ret ?_ | refine block_exit ?_ | refine block_out rfl ?_
          | (apply awp_reg hΓ; (focus (simp (disch := omega) only [go_sem, decide_eq_true, decide_eq_false, if_pos, if_neg, wrap_in, maxLen, Γ52, s54, k1d, k2']; with_reducible rfl)))
          | (apply awp_regf mixedOK hΓ (by kernel_rfl); (focus (simp (disch := omega) only [go_sem, decide_eq_true, decide_eq_false, if_pos, if_neg, wrap_in, maxLen, Γ52, s54, k1d, k2']; with_reducible rfl)); (focus (simp only [go_sem]; with_reducible rfl)))
          | (apply awp_regt mixedOK hΓ rfl; (focus kernel_rfl); (focus (simp (disch := omega) only [go_sem, decide_eq_true, decide_eq_false, if_pos, if_neg, wrap_in, maxLen, Γ52, s54, k1d, k2']; with_reducible rfl)); (focus (simp only [go_sem]; with_reducible rfl)); (focus (simp (disch := omega) only [go_sem, decide_eq_true, decide_eq_false, if_pos, if_neg, wrap_in, maxLen, Γ52, s54, k1d, k2']; with_reducible rfl)))
          | (apply awp_cond_t; (focus (simp (disch := omega) only [go_sem, decide_eq_true, decide_eq_false, if_pos, if_neg, wrap_in, maxLen, Γ52, s54, k1d, k2']; done))) | (apply awp_cond_f; (focus (simp (disch := omega) only [go_sem, decide_eq_true, decide_eq_false, if_pos, if_neg, wrap_in, maxLen, Γ52, s54, k1d, k2']; done)))
          | (apply ret_e; (focus (simp (disch := omega) only [go_sem, decide_eq_true, decide_eq_false, if_pos, if_neg, wrap_in, maxLen, Γ52, s54, k1d, k2']; with_reducible rfl)); (focus (simp (disch := omega) only [go_sem, decide_eq_true, decide_eq_false, if_pos, if_neg, wrap_in, maxLen, Γ52, s54, k1d, k2']; with_reducible rfl))) | (apply end_e; (focus (simp (disch := omega) only [go_sem, decide_eq_true, decide_eq_false, if_pos, if_neg, wrap_in, maxLen, Γ52, s54, k1d, k2']; with_reducible rfl)); (focus (simp (disch := omega) only [go_sem, decide_eq_true, decide_eq_false, if_pos, if_neg, wrap_in, maxLen, Γ52, s54, k1d, k2']; with_reducible rfl)))
          | rfl)
        rw [hn, hcon]
      · have k2' : (l[i] == x) = false := by simpa using k2
        have hcon : l.contains x = false := by
          rw [Bool.eq_false_iff]
          intro h
          rw [List.contains_iff_mem] at h
          obtain ⟨k, hk, rfl⟩ := List.getElem_of_mem h
          rcases Nat.lt_trichotomy k i with h5 | h5 | h5
          · have := h3 k hk h5
            omega
          · subst h5; exact k2 rfl
          · have := List.pairwise_iff_getElem.1 hp i k k1 hk h5
            omega
        repeat (first
          | refine awp_seq ?_ | refine awp_block ?_ | refine awp_ret ?_ | refine awp_skip ?_ | refine awp_exit ?_ | refine awp_label ?_
          | refine then_normal ?_ | refine then_ret ?_ | refine then_exit ?_ | refine block_normal ?_ | refine block_ret ?_ | refine block_exit ?_ | refine block_out rfl ?_
          | (apply awp_reg hΓ; (focus (simp (disch := omega) only [go_sem, decide_eq_true, decide_eq_false, if_pos, if_neg, wrap_in, maxLen, Γ52, s54, k1d, k2']; with_reducible rfl)))
          | (apply awp_regf mixedOK hΓ (by kernel_rfl); (focus (simp (disch := omega) only [go_sem, decide_eq_true, decide_eq_false, if_pos, if_neg, wrap_in, maxLen, Γ52, s54, k1d, k2']; with_reducible rfl)); (focus (simp only [go_sem]; with_reducible rfl)))
          | (apply awp_regt mixedOK hΓ rfl; (focus kernel_rfl); (focus (simp (disch := omega) only [go_sem, decide_eq_true, decide_eq_false, if_pos, if_neg, wrap_in, maxLen, Γ52, s54, k1d, k2']; with_reducible rfl)); (focus (simp only [go_sem]; with_reducible rfl)); (focus (simp (disch := omega) only [go_sem, decide_eq_true, decide_eq_false, if_pos, if_neg, wrap_in, maxLen, Γ52, s54, k1d, k2']; with_reducible rfl)))
          | (apply awp_cond_t; (focus (simp (disch := omega) only [go_sem, decide_eq_true, decide_eq_false, if_pos, if_neg, wrap_in, maxLen, Γ52, s54, k1d, k2']; done))) | (apply awp_cond_f; (focus (simp (disch := omega) only [go_sem, decide_eq_true, decide_eq_false, if_pos, if_neg, wrap_in, maxLen, Γ52, s54, k1d, k2']; done)))
          | (apply ret_e; (focus (simp (disch := omega) only [go_sem, decide_eq_true, decide_eq_false, if_pos, if_neg, wrap_in, maxLen, Γ52, s54, k1d, k2']; with_reducible rfl)); (focus (simp (disch := omega) only [go_sem, decide_eq_true, decide_eq_false, if_pos, if_neg, wrap_in, maxLen, Γ52, s54, k1d, k2']; with_reducible rfl))) | (apply end_e; (focus (simp (disch := omega) only [go_sem, decide_eq_true, decide_eq_false, if_pos, if_neg, wrap_in, maxLen, Γ52, s54, k1d, k2']; with_reducible rfl)); (focus (simp (disch := omega) only [go_sem, decide_eq_true, decide_eq_false, if_pos, if_neg, wrap_in, maxLen, Γ52, s54, k1d, k2']; with_reducible rfl)))
          | rfl)
        rw [hn, hcon]
    · have hcon : l.contains x = false := by
        rw [Bool.eq_false_iff]
        intro h
        rw [List.contains_iff_mem] at h
        obtain ⟨k, hk, rfl⟩ := List.getElem_of_mem h
        have := h3 k hk (by omega)
        omega
      have k1d : decide (i < l.length) = false := decide_eq_false k1
      repeat (first
        | refine awp_seq ?_ | refine awp_block ?_ | refine awp_ret ?_ | refine awp_skip ?_ | refine awp_exit ?_ | refine awp_label ?_
        | refine then_normal ?_ | refine then_ret ?_ | refine then_exit ?_ | refine block_normal ?_ | refine block_ret ?_ | refine block_exit ?_ | refine block_out rfl ?_
        | (apply awp_reg hΓ; (focus (simp (disch := omega) only [go_sem, decide_eq_true, decide_eq_false, if_pos, if_neg, wrap_in, maxLen, Γ52, s54, k1d]; with_reducible rfl)))
        | (apply awp_regf mixedOK hΓ (by kernel_rfl); (focus (simp (disch := omega) only [go_sem, decide_eq_true, decide_eq_false, if_pos, if_neg, wrap_in, maxLen, Γ52, s54, k1d]; with_reducible rfl)); (focus (simp only [go_sem]; with_reducible rfl)))
        | (apply awp_regt mixedOK hΓ rfl; (focus kernel_rfl); (focus (simp (disch := omega) only [go_sem, decide_eq_true, decide_eq_false, if_pos, if_neg, wrap_in, maxLen, Γ52, s54, k1d]; with_reducible rfl)); (focus (simp only [go_sem]; with_reducible rfl)); (focus (simp (disch := omega) only [go_sem, decide_eq_true, decide_eq_false, if_pos, if_neg, wrap_in, maxLen, Γ52, s54, k1d]; with_reducible rfl)))
        | (apply awp_cond_t; (focus (simp (disch := omega) only [go_sem, decide_eq_true, decide_eq_false, if_pos, if_neg, wrap_in, maxLen, Γ52, s54, k1d]; done))) | (apply awp_cond_f; (focus (simp (disch := omega) only [go_sem, decide_eq_true, decide_eq_false, if_pos, if_neg, wrap_in, maxLen, Γ52, s54, k1d]; done)))
        | (apply ret_e; (focus (simp (disch := omega) only [go_sem, decide_eq_true, decide_eq_false, if_pos, if_neg, wrap_in, maxLen, Γ52, s54, k1d]; with_reducible rfl)); (focus (simp (disch := omega) only [go_sem, decide_eq_true, decide_eq_false, if_pos, if_neg, wrap_in, maxLen, Γ52, s54, k1d]; with_reducible rfl))) | (apply end_e; (focus (simp (disch := omega) only [go_sem, decide_eq_true, decide_eq_false, if_pos, if_neg, wrap_in, maxLen, Γ52, s54, k1d]; with_reducible rfl)); (focus (simp (disch := omega) only [go_sem, decide_eq_true, decide_eq_false, if_pos, if_neg, wrap_in, maxLen, Γ52, s54, k1d]; with_reducible rfl)))
        | rfl)
      rw [hn, hcon]
end Go.Ab
