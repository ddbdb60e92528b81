/-
  One text of the proof (own work): contracts of functions of the program, by the abstract machine.
-/
import Derived.Test.YtpecnbkfahekdaaA9
import Derived.Test.YtpecnbkfahekdaaA17
import Derived.Test.YtpecnbkfahekdaaA11
set_option linter.unusedVariables false
set_option linter.unusedSimpArgs false
namespace Go.Ab
open Go Go.RowKit Go.Proofs
set_option maxRecDepth 4000
set_option maxHeartbeats 2000000

def s45 : List D → Option D
  | [.int .i64 a, .int .i64 b] => some (.bool (decide (a < b)))
  | _ => none
theorem f45_ok : PureOK Try.prog 45 true s45 := by
  have hΓ := Γ1_ok
  refine pure_of_awp (n := 17) (rs := [.tmp 4]) Try.func45 (by kernel_rfl) rfl (by kernel_rfl) (by kernel_rfl) fun ds d hd => ?_
  unfold s45 at hd
  split at hd
  · rename_i a b
    simp only [Option.some.injEq] at hd
    subst hd
    refine ⟨fun _ => .bool _, fun c hz0 => ?_⟩
    simp only [start, go_sem, emptyH, List.replicate_succ, List.replicate_zero]
    repeat (first
      | refine awp_seq ?_ | refine awp_block ?_ | refine awp_ret ?_ | refine awp_skip ?_ | refine awp_exit ?_ | refine awp_label ?_
      | refine then_normal ?_ | refine then_ret ?_ | refine then_exit ?_ | refine block_normal ?_ | refine block_ret ?_ | refine block_exit ?_ | refine block_out rfl ?_
      | (apply awp_reg hΓ; (focus (simp (disch := omega) only [go_sem, Γ1, s54]; with_reducible rfl)))
      | (apply awp_regf mixedOK hΓ (by kernel_rfl); (focus (simp (disch := omega) only [go_sem, Γ1, s54]; with_reducible rfl)); (focus (simp only [go_sem]; with_reducible rfl)))
      | (apply awp_regt mixedOK hΓ rfl; (focus kernel_rfl); (focus (simp (disch := omega) only [go_sem, Γ1, s54]; with_reducible rfl)); (focus (simp only [go_sem]; with_reducible rfl)); (focus (simp (disch := omega) only [go_sem, Γ1, s54]; with_reducible rfl)))
      | (apply awp_cond_t; (focus (simp (disch := omega) only [go_sem, Γ1, s54]; done))) | (apply awp_cond_f; (focus (simp (disch := omega) only [go_sem, Γ1, s54]; done)))
      | (apply ret_e; (focus (simp (disch := omega) only [go_sem, Γ1, s54]; with_reducible rfl)); (focus (simp (disch := omega) only [go_sem, Γ1, s54]; with_reducible rfl))) | (apply end_e; (focus (simp (disch := omega) only [go_sem, Γ1, s54]; with_reducible rfl)); (focus (simp (disch := omega) only [go_sem, Γ1, s54]; with_reducible rfl)))
      | rfl)
  · cases hd
theorem f56_ok : PureOK Try.prog 56 true s54 := by
  have hΓ : ∀ f s, Γ0 f = some s → SpecOK Try.prog f s := fun _ _ h => by cases h
  refine pure_of_awp (n := 6) (rs := [.tmp 2]) Try.func56 (by kernel_rfl) rfl (by kernel_rfl) (by kernel_rfl) fun ds d hd => ?_
  unfold s54 at hd
  split at hd
  · rename_i k n
    simp only [Option.some.injEq] at hd
    subst hd
    refine ⟨fun _ => .bool _, fun c hz0 => ?_⟩
    simp only [start, go_sem, emptyH, List.replicate_succ, List.replicate_zero]
    repeat (first
      | refine awp_seq ?_ | refine awp_block ?_ | refine awp_ret ?_ | refine awp_skip ?_ | refine awp_exit ?_ | refine awp_label ?_
      | refine then_normal ?_ | refine then_ret ?_ | refine then_exit ?_ | refine block_normal ?_ | refine block_ret ?_ | refine block_exit ?_ | refine block_out rfl ?_
      | (apply awp_reg hΓ; (focus (simp (disch := omega) only [go_sem, bne_self_eq_false]; with_reducible rfl)))
      | (apply awp_regf mixedOK hΓ (by kernel_rfl); (focus (simp (disch := omega) only [go_sem, bne_self_eq_false]; with_reducible rfl)); (focus (simp only [go_sem]; with_reducible rfl)))
      | (apply awp_regt mixedOK hΓ rfl; (focus kernel_rfl); (focus (simp (disch := omega) only [go_sem, bne_self_eq_false]; with_reducible rfl)); (focus (simp only [go_sem]; with_reducible rfl)); (focus (simp (disch := omega) only [go_sem, bne_self_eq_false]; with_reducible rfl)))
      | (apply awp_cond_t; (focus (simp (disch := omega) only [go_sem, bne_self_eq_false]; done))) | (apply awp_cond_f; (focus (simp (disch := omega) only [go_sem, bne_self_eq_false]; done)))
      | (apply ret_e; (focus (simp (disch := omega) only [go_sem, bne_self_eq_false]; with_reducible rfl)); (focus (simp (disch := omega) only [go_sem, bne_self_eq_false]; with_reducible rfl))) | (apply end_e; (focus (simp (disch := omega) only [go_sem, bne_self_eq_false]; with_reducible rfl)); (focus (simp (disch := omega) only [go_sem, bne_self_eq_false]; with_reducible rfl)))
      | rfl)
  · cases hd

/-- How many are less. -/
def lessN (l : List Int) (x : Int) : Nat := (l.filter fun y => decide (y < x)).length
theorem lessN_at {l : List Int} {x : Int} {i : Nat} (hi : i ≤ l.length) (h1 : ∀ k (h : k < l.length), k < i → l[k] < x) (h2 : ∀ k (h : k < l.length), i ≤ k → x ≤ l[k]) : lessN l x = i := by
  have e : l.filter (fun y => decide (y < x)) = l.take i := by
    conv => lhs; rw [← List.take_append_drop i l, List.filter_append]
    have a1 : (l.take i).filter (fun y => decide (y < x)) = l.take i := List.filter_eq_self.2 fun y hy => by
      obtain ⟨k, hk, rfl⟩ := List.getElem_of_mem hy
      rw [List.length_take] at hk
      rw [List.getElem_take]
      exact decide_eq_true (h1 k (by omega) (by omega))
    have a2 : (l.drop i).filter (fun y => decide (y < x)) = [] := List.filter_eq_nil_iff.2 fun y hy => by
      obtain ⟨k, hk, rfl⟩ := List.getElem_of_mem hy
      rw [List.length_drop] at hk
      rw [List.getElem_drop]
      have := h2 (i + k) (by omega) (by omega)
      simp
      omega
    rw [a1, a2, List.append_nil]
  rw [lessN, e, List.length_take]
  omega
noncomputable def g52 : List D → Option D := encSpec (fun x : List Int × Int => [ints x.1, i64 x.2]) (fun x => x.1.length ≤ 1099511627776 ∧ x.1.Pairwise (· < ·)) (fun x => .tup [i64 (lessN x.1 x.2), .bool (x.1.contains x.2)])
theorem g52_eq {l : List Int} {x : Int} (h : l.length ≤ 1099511627776) (hp : l.Pairwise (· < ·)) : g52 [.list (l.map i64), .int .i64 x] = some (.tup [i64 (lessN l x), .bool (l.contains x)]) :=
  encSpec_eq (x := (l, x)) ⟨h, hp⟩ fun y hy => by
    obtain ⟨y1, y2⟩ := y
    simp only [List.cons.injEq, and_true] at hy
    rw [ints_inj hy.1, i64_inj _ _ hy.2]
def Γ52 : FuncId → Option CSpec := fun f => if f = 45 then some (.pure true s45) else if f = 56 then some (.pure true s54) else none
theorem Γ52_ok : ∀ f s, Γ52 f = some s → SpecOK Try.prog f s := by
  intro f s h
  unfold Γ52 at h
  split at h
  · rename_i hf; cases h; subst hf; exact f45_ok
  split at h
  · rename_i hf; cases h; subst hf; exact f56_ok
  · cases h
theorem half_eq {a b : Nat} (h : a + b < 4611686018427387904) : ashift .shr .u64 (IntKind.u64.wrap ((a : Int) + (b : Int))) 1 = some (((a + b) / 2 : Nat) : Int) := by
  have e1 : IntKind.u64.wrap ((a : Int) + (b : Int)) = ((a + b : Nat) : Int) := by
    rw [IntKind.wrap_u64]
    omega
  have e2 : min (Int.toNat 1) IntKind.u64.bits = 1 := by decide
  rw [e1, ashift, if_neg (by decide)]
  show some (Int.fdiv ((a + b : Nat) : Int) (2 ^ (min (Int.toNat 1) IntKind.u64.bits))) = _
  rw [e2]
  show some (Int.fdiv ((a + b : Nat) : Int) 2) = _
  rw [Int.fdiv_eq_ediv_of_nonneg _ (by decide)]
  congr 1
theorem f52_ok : PureOK Try.prog 52 true g52 := by
  have hΓ := Γ52_ok
  refine pure_enc (n := 54) (rs := [.tmp 4, .tmp 5]) Try.func52 (by kernel_rfl) rfl (by kernel_rfl) (by kernel_rfl) ?_
  rintro ⟨l, x⟩ ⟨hlen, hp⟩
  dsimp only at hlen hp
  refine ⟨fun _ => .tup _ (by simp; exact ⟨.int _ _, .bool _⟩), fun c hz0 => ?_⟩
  simp only [start, go_sem, emptyH, List.replicate_succ, List.replicate_zero]
  repeat (first
    | refine awp_seq ?_ | refine awp_block ?_ | refine awp_ret ?_ | refine awp_skip ?_ | refine awp_exit ?_ | refine awp_label ?_
    | refine then_normal ?_ | refine then_ret ?_ | refine then_exit ?_ | refine block_normal ?_ | refine block_ret ?_ | refine block_exit ?_ | refine block_out rfl ?_
    | (apply awp_reg hΓ; (focus (simp (disch := omega) only [go_sem]; with_reducible rfl)))
    | (apply awp_regf mixedOK hΓ (by kernel_rfl); (focus (simp (disch := omega) only [go_sem]; with_reducible rfl)); (focus (simp only [go_sem]; with_reducible rfl)))
    | (apply awp_regt mixedOK hΓ rfl; (focus kernel_rfl); (focus (simp (disch := omega) only [go_sem]; with_reducible rfl)); (focus (simp only [go_sem]; with_reducible rfl)); (focus (simp (disch := omega) only [go_sem]; with_reducible rfl)))
    | (apply awp_cond_t; (focus (simp (disch := omega) only [go_sem]; done))) | (apply awp_cond_f; (focus (simp (disch := omega) only [go_sem]; done)))
    | (apply ret_e; (focus (simp (disch := omega) only [go_sem]; with_reducible rfl)); (focus (simp (disch := omega) only [go_sem]; with_reducible rfl))) | (apply end_e; (focus (simp (disch := omega) only [go_sem]; with_reducible rfl)); (focus (simp (disch := omega) only [go_sem]; with_reducible rfl)))
    | rfl)
  refine awp_loop_at (X := Nat × Nat) (fun y => (.data (ints l) :: .data (i64 x) :: .junk :: .junk :: .junk :: .junk :: .data (i64 l.length) :: .data (i64 y.1) :: .data (i64 y.2) :: .junk :: .junk :: .junk :: .junk :: .junk :: .junk :: .junk :: .junk :: .junk :: .junk :: .junk :: .junk :: .junk :: .junk :: .junk :: .junk :: .junk :: .junk :: .junk :: .junk :: .junk :: .junk :: .junk :: .junk :: .junk :: .junk :: .junk :: .junk :: .junk :: .junk :: .junk :: .junk :: .junk :: .junk :: .junk :: .junk :: .junk :: .junk :: .junk :: .junk :: .junk :: .junk :: .junk :: .junk :: .junk :: []))
    (fun _ => []) 0 (fun y => y.1 ≤ y.2 ∧ y.2 ≤ l.length ∧ (∀ k (h : k < l.length), k < y.1 → l[k] < x) ∧ (∀ k (h : k < l.length), y.2 ≤ k → x ≤ l[k])) (fun y => y.2 - y.1) (0, l.length)
    ⟨Nat.zero_le _, Nat.le_refl _, fun k _ h => (by omega), fun k h1 h2 => (by omega)⟩ (Weak.of (by omega) (by simp [ConvL, Conv, ints]) (by simp [TabSub, look, Obj.refsOK, refsOKs, AV.refsOK]) (by simp [refsOKs, AV.refsOK])) ?_
  rintro ⟨i, j⟩ ⟨h1, h2, h3, h4⟩
  dsimp only at h1 h2 h3 h4
  repeat (first
    | refine awp_seq ?_ | refine awp_block ?_ | refine awp_ret ?_ | refine awp_skip ?_ | refine awp_exit ?_ | refine awp_label ?_
    | refine then_normal ?_ | refine then_ret ?_ | refine then_exit ?_ | refine block_normal ?_ | refine block_ret ?_ | refine block_exit ?_ | refine block_out rfl ?_
    | (apply awp_reg hΓ; (focus (simp (disch := omega) only [go_sem, decide_eq_true, decide_eq_false, if_pos, if_neg, wrap_in, maxLen]; with_reducible rfl)))
    | (apply awp_regf mixedOK hΓ (by kernel_rfl); (focus (simp (disch := omega) only [go_sem, decide_eq_true, decide_eq_false, if_pos, if_neg, wrap_in, maxLen]; with_reducible rfl)); (focus (simp only [go_sem]; with_reducible rfl)))
    | (apply awp_regt mixedOK hΓ rfl; (focus kernel_rfl); (focus (simp (disch := omega) only [go_sem, decide_eq_true, decide_eq_false, if_pos, if_neg, wrap_in, maxLen]; with_reducible rfl)); (focus (simp only [go_sem]; with_reducible rfl)); (focus (simp (disch := omega) only [go_sem, decide_eq_true, decide_eq_false, if_pos, if_neg, wrap_in, maxLen]; with_reducible rfl)))
    | (apply awp_cond_t; (focus (simp (disch := omega) only [go_sem, decide_eq_true, decide_eq_false, if_pos, if_neg, wrap_in, maxLen]; done))) | (apply awp_cond_f; (focus (simp (disch := omega) only [go_sem, decide_eq_true, decide_eq_false, if_pos, if_neg, wrap_in, maxLen]; done)))
    | (apply ret_e; (focus (simp (disch := omega) only [go_sem, decide_eq_true, decide_eq_false, if_pos, if_neg, wrap_in, maxLen]; with_reducible rfl)); (focus (simp (disch := omega) only [go_sem, decide_eq_true, decide_eq_false, if_pos, if_neg, wrap_in, maxLen]; with_reducible rfl))) | (apply end_e; (focus (simp (disch := omega) only [go_sem, decide_eq_true, decide_eq_false, if_pos, if_neg, wrap_in, maxLen]; with_reducible rfl)); (focus (simp (disch := omega) only [go_sem, decide_eq_true, decide_eq_false, if_pos, if_neg, wrap_in, maxLen]; with_reducible rfl)))
    | rfl)
  refine awp_cond (by simp (disch := omega) only [go_sem]; rfl) (fun hc => ?_) (fun hc => ?_)
  · have hij : i < j := by simpa using hc
    have hh := half_eq (a := i) (b := j) (by omega)
    obtain ⟨m, hm⟩ : ∃ m, m = (i + j) / 2 := ⟨_, rfl⟩
    rw [← hm] at hh
    have hml : m < l.length := by omega
    have hpw : ∀ a b (ha : a < l.length) (hb : b < l.length), a < b → l[a] < l[b] := fun a b ha hb hab => List.pairwise_iff_getElem.1 hp a b ha hb hab
    by_cases k1 : l[m] < x
    · have k1d : decide (l[m] < x) = true := decide_eq_true k1
      repeat (first
        | refine awp_seq ?_ | refine awp_block ?_ | refine awp_ret ?_ | refine awp_skip ?_ | refine awp_exit ?_ | refine awp_label ?_
        | refine then_normal ?_ | refine then_ret ?_ | refine then_exit ?_ | refine block_normal ?_ | refine block_ret ?_ | refine block_exit ?_ | refine block_out rfl ?_
        | (apply awp_reg hΓ; (focus (simp (disch := omega) only [go_sem, decide_eq_true, decide_eq_false, if_pos, if_neg, wrap_in, maxLen, hh, Γ52, s45, k1d]; with_reducible rfl)))
        | (apply awp_regf mixedOK hΓ (by kernel_rfl); (focus (simp (disch := omega) only [go_sem, decide_eq_true, decide_eq_false, if_pos, if_neg, wrap_in, maxLen, hh, Γ52, s45, k1d]; with_reducible rfl)); (focus (simp only [go_sem]; with_reducible rfl)))
        | (apply awp_regt mixedOK hΓ rfl; (focus kernel_rfl); (focus (simp (disch := omega) only [go_sem, decide_eq_true, decide_eq_false, if_pos, if_neg, wrap_in, maxLen, hh, Γ52, s45, k1d]; with_reducible rfl)); (focus (simp only [go_sem]; with_reducible rfl)); (focus (simp (disch := omega) only [go_sem, decide_eq_true, decide_eq_false, if_pos, if_neg, wrap_in, maxLen, hh, Γ52, s45, k1d]; with_reducible rfl)))
        | (apply awp_cond_t; (focus (simp (disch := omega) only [go_sem, decide_eq_true, decide_eq_false, if_pos, if_neg, wrap_in, maxLen, hh, Γ52, s45, k1d]; done))) | (apply awp_cond_f; (focus (simp (disch := omega) only [go_sem, decide_eq_true, decide_eq_false, if_pos, if_neg, wrap_in, maxLen, hh, Γ52, s45, k1d]; done)))
        | (apply ret_e; (focus (simp (disch := omega) only [go_sem, decide_eq_true, decide_eq_false, if_pos, if_neg, wrap_in, maxLen, hh, Γ52, s45, k1d]; with_reducible rfl)); (focus (simp (disch := omega) only [go_sem, decide_eq_true, decide_eq_false, if_pos, if_neg, wrap_in, maxLen, hh, Γ52, s45, k1d]; with_reducible rfl))) | (apply end_e; (focus (simp (disch := omega) only [go_sem, decide_eq_true, decide_eq_false, if_pos, if_neg, wrap_in, maxLen, hh, Γ52, s45, k1d]; with_reducible rfl)); (focus (simp (disch := omega) only [go_sem, decide_eq_true, decide_eq_false, if_pos, if_neg, wrap_in, maxLen, hh, Γ52, s45, k1d]; with_reducible rfl)))
        | rfl)
      exact ⟨(m + 1, j), ⟨by dsimp only; omega, h2, fun k h hk => by
        rcases Nat.lt_or_eq_of_le (Nat.le_of_lt_succ hk) with h5 | h5
        · have := hpw k m h hml h5
          omega
        · subst h5; exact k1, h4⟩, by dsimp only; omega, Weak.of (by omega) (by simp [ConvL, Conv, ints]) (by simp [TabSub, look, Obj.refsOK, refsOKs, AV.refsOK]) (by simp [refsOKs, AV.refsOK])⟩
    · have k1d : decide (l[m] < x) = false := decide_eq_false k1
      repeat (first
        | refine awp_seq ?_ | refine awp_block ?_ | refine awp_ret ?_ | refine awp_skip ?_ | refine awp_exit ?_ | refine awp_label ?_
        | refine then_normal ?_ | refine then_ret ?_ | refine then_exit ?_ | refine block_normal ?_ | refine block_ret ?_ | refine block_exit ?_ | refine block_out rfl ?_
        | (apply awp_reg hΓ; (focus (simp (disch := omega) only [go_sem, decide_eq_true, decide_eq_false, if_pos, if_neg, wrap_in, maxLen, hh, Γ52, s45, k1d]; with_reducible rfl)))
        | (apply awp_regf mixedOK hΓ (by kernel_rfl); (focus (simp (disch := omega) only [go_sem, decide_eq_true, decide_eq_false, if_pos, if_neg, wrap_in, maxLen, hh, Γ52, s45, k1d]; with_reducible rfl)); (focus (simp only [go_sem]; with_reducible rfl)))
        | (apply awp_regt mixedOK hΓ rfl; (focus kernel_rfl); (focus (simp (disch := omega) only [go_sem, decide_eq_true, decide_eq_false, if_pos, if_neg, wrap_in, maxLen, hh, Γ52, s45, k1d]; with_reducible rfl)); (focus (simp only [go_sem]; with_reducible rfl)); (focus (simp (disch := omega) only [go_sem, decide_eq_true, decide_eq_false, if_pos, if_neg, wrap_in, maxLen, hh, Γ52, s45, k1d]; with_reducible rfl)))
        | (apply awp_cond_t; (focus (simp (disch := omega) only [go_sem, decide_eq_true, decide_eq_false, if_pos, if_neg, wrap_in, maxLen, hh, Γ52, s45, k1d]; done))) | (apply awp_cond_f; (focus (simp (disch := omega) only [go_sem, decide_eq_true, decide_eq_false, if_pos, if_neg, wrap_in, maxLen, hh, Γ52, s45, k1d]; done)))
        | (apply ret_e; (focus (simp (disch := omega) only [go_sem, decide_eq_true, decide_eq_false, if_pos, if_neg, wrap_in, maxLen, hh, Γ52, s45, k1d]; with_reducible rfl)); (focus (simp (disch := omega) only [go_sem, decide_eq_true, decide_eq_false, if_pos, if_neg, wrap_in, maxLen, hh, Γ52, s45, k1d]; with_reducible rfl))) | (apply end_e; (focus (simp (disch := omega) only [go_sem, decide_eq_true, decide_eq_false, if_pos, if_neg, wrap_in, maxLen, hh, Γ52, s45, k1d]; with_reducible rfl)); (focus (simp (disch := omega) only [go_sem, decide_eq_true, decide_eq_false, if_pos, if_neg, wrap_in, maxLen, hh, Γ52, s45, k1d]; with_reducible rfl)))
        | rfl)
      exact ⟨(i, m), ⟨by dsimp only; omega, by dsimp only; omega, h3, fun k h hk => by
        dsimp only at hk
        rcases Nat.lt_or_eq_of_le hk with h5 | h5
        · have := hpw m k hml h h5
          omega
        · subst h5; omega⟩, by dsimp only; omega, Weak.of (by omega) (by simp [ConvL, Conv, ints]) (by simp [TabSub, look, Obj.refsOK, refsOKs, AV.refsOK]) (by simp [refsOKs, AV.refsOK])⟩
  · have hij : i = j := by
      have : ¬ i < j := by simpa using hc
      omega
    subst hij
    have hn := lessN_at h2 h3 h4
    by_cases k1 : i < l.length
    · have hil := h4 i k1 (Nat.le_refl _)
      have k1d : decide (i < l.length) = true := decide_eq_true k1
      by_cases k2 : l[i] = x
      · have k2' : (l[i] == x) = true := by simpa using k2
        have hcon : l.contains x = true := by
          rw [List.contains_iff_mem, ← k2]
          exact List.getElem_mem k1
        repeat (first
          | refine awp_seq ?_ | refine awp_block ?_ | refine awp_ret ?_ | refine awp_skip ?_ | refine awp_exit ?_ | refine awp_label ?_
          | refine then_normal ?_ | refine then_ret ?_ | refine then_exit ?_ | refine block_normal ?_ | refine block_ret ?_ | refine block_exit ?_ | refine block_out rfl ?_
          | (apply awp_reg hΓ; (focus (simp (disch := omega) only [go_sem, decide_eq_true, decide_eq_false, if_pos, if_neg, wrap_in, maxLen, Γ52, s54, k1d, k2']; with_reducible rfl)))
          | (apply awp_regf mixedOK hΓ (by kernel_rfl); (focus (simp (disch := omega) only [go_sem, decide_eq_true, decide_eq_false, if_pos, if_neg, wrap_in, maxLen, Γ52, s54, k1d, k2']; with_reducible rfl)); (focus (simp only [go_sem]; with_reducible rfl)))
          | (apply awp_regt mixedOK hΓ rfl; (focus kernel_rfl); (focus (simp (disch := omega) only [go_sem, decide_eq_true, decide_eq_false, if_pos, if_neg, wrap_in, maxLen, Γ52, s54, k1d, k2']; with_reducible rfl)); (focus (simp only [go_sem]; with_reducible rfl)); (focus (simp (disch := omega) only [go_sem, decide_eq_true, decide_eq_false, if_pos, if_neg, wrap_in, maxLen, Γ52, s54, k1d, k2']; with_reducible rfl)))
          | (apply awp_cond_t; (focus (simp (disch := omega) only [go_sem, decide_eq_true, decide_eq_false, if_pos, if_neg, wrap_in, maxLen, Γ52, s54, k1d, k2']; done))) | (apply awp_cond_f; (focus (simp (disch := omega) only [go_sem, decide_eq_true, decide_eq_false, if_pos, if_neg, wrap_in, maxLen, Γ52, s54, k1d, k2']; done)))
          | (apply ret_e; (focus (simp (disch := omega) only [go_sem, decide_eq_true, decide_eq_false, if_pos, if_neg, wrap_in, maxLen, Γ52, s54, k1d, k2']; with_reducible rfl)); (focus (simp (disch := omega) only [go_sem, decide_eq_true, decide_eq_false, if_pos, if_neg, wrap_in, maxLen, Γ52, s54, k1d, k2']; with_reducible rfl))) | (apply end_e; (focus (simp (disch := omega) only [go_sem, decide_eq_true, decide_eq_false, if_pos, if_neg, wrap_in, maxLen, Γ52, s54, k1d, k2']; with_reducible rfl)); (focus (simp (disch := omega) only [go_sem, decide_eq_true, decide_eq_false, if_pos, if_neg, wrap_in, maxLen, Γ52, s54, k1d, k2']; with_reducible rfl)))
          | rfl)
        rw [hn, hcon]
      · have k2' : (l[i] == x) = false := by simpa using k2
        have hcon : l.contains x = false := by
          rw [Bool.eq_false_iff]
          intro h
          rw [List.contains_iff_mem] at h
          obtain ⟨k, hk, rfl⟩ := List.getElem_of_mem h
          rcases Nat.lt_trichotomy k i with h5 | h5 | h5
          · have := h3 k hk h5
            omega
          · subst h5; exact k2 rfl
          · have := List.pairwise_iff_getElem.1 hp i k k1 hk h5
            omega
        repeat (first
          | refine awp_seq ?_ | refine awp_block ?_ | refine awp_ret ?_ | refine awp_skip ?_ | refine awp_exit ?_ | refine awp_label ?_
          | refine then_normal ?_ | refine then_ret ?_ | refine then_exit ?_ | refine block_normal ?_ | refine block_ret ?_ | refine block_exit ?_ | refine block_out rfl ?_
          | (apply awp_reg hΓ; (focus (simp (disch := omega) only [go_sem, decide_eq_true, decide_eq_false, if_pos, if_neg, wrap_in, maxLen, Γ52, s54, k1d, k2']; with_reducible rfl)))
          | (apply awp_regf mixedOK hΓ (by kernel_rfl); (focus (simp (disch := omega) only [go_sem, decide_eq_true, decide_eq_false, if_pos, if_neg, wrap_in, maxLen, Γ52, s54, k1d, k2']; with_reducible rfl)); (focus (simp only [go_sem]; with_reducible rfl)))
          | (apply awp_regt mixedOK hΓ rfl; (focus kernel_rfl); (focus (simp (disch := omega) only [go_sem, decide_eq_true, decide_eq_false, if_pos, if_neg, wrap_in, maxLen, Γ52, s54, k1d, k2']; with_reducible rfl)); (focus (simp only [go_sem]; with_reducible rfl)); (focus (simp (disch := omega) only [go_sem, decide_eq_true, decide_eq_false, if_pos, if_neg, wrap_in, maxLen, Γ52, s54, k1d, k2']; with_reducible rfl)))
          | (apply awp_cond_t; (focus (simp (disch := omega) only [go_sem, decide_eq_true, decide_eq_false, if_pos, if_neg, wrap_in, maxLen, Γ52, s54, k1d, k2']; done))) | (apply awp_cond_f; (focus (simp (disch := omega) only [go_sem, decide_eq_true, decide_eq_false, if_pos, if_neg, wrap_in, maxLen, Γ52, s54, k1d, k2']; done)))
          | (apply ret_e; (focus (simp (disch := omega) only [go_sem, decide_eq_true, decide_eq_false, if_pos, if_neg, wrap_in, maxLen, Γ52, s54, k1d, k2']; with_reducible rfl)); (focus (simp (disch := omega) only [go_sem, decide_eq_true, decide_eq_false, if_pos, if_neg, wrap_in, maxLen, Γ52, s54, k1d, k2']; with_reducible rfl))) | (apply end_e; (focus (simp (disch := omega) only [go_sem, decide_eq_true, decide_eq_false, if_pos, if_neg, wrap_in, maxLen, Γ52, s54, k1d, k2']; with_reducible rfl)); (focus (simp (disch := omega) only [go_sem, decide_eq_true, decide_eq_false, if_pos, if_neg, wrap_in, maxLen, Γ52, s54, k1d, k2']; with_reducible rfl)))
          | rfl)
        rw [hn, hcon]
    · have hcon : l.contains x = false := by
        rw [Bool.eq_false_iff]
        intro h
        rw [List.contains_iff_mem] at h
        obtain ⟨k, hk, rfl⟩ := List.getElem_of_mem h
        have := h3 k hk (by omega)
        omega
      have k1d : decide (i < l.length) = false := decide_eq_false k1
      repeat (first
        | refine awp_seq ?_ | refine awp_block ?_ | refine awp_ret ?_ | refine awp_skip ?_ | refine awp_exit ?_ | refine awp_label ?_
        | refine then_normal ?_ | refine then_ret ?_ | refine then_exit ?_ | refine block_normal ?_ | refine block_ret ?_ | refine block_exit ?_ | refine block_out rfl ?_
        | (apply awp_reg hΓ; (focus (simp (disch := omega) only [go_sem, decide_eq_true, decide_eq_false, if_pos, if_neg, wrap_in, maxLen, Γ52, s54, k1d]; with_reducible rfl)))
        | (apply awp_regf mixedOK hΓ (by kernel_rfl); (focus (simp (disch := omega) only [go_sem, decide_eq_true, decide_eq_false, if_pos, if_neg, wrap_in, maxLen, Γ52, s54, k1d]; with_reducible rfl)); (focus (simp only [go_sem]; with_reducible rfl)))
        | (apply awp_regt mixedOK hΓ rfl; (focus kernel_rfl); (focus (simp (disch := omega) only [go_sem, decide_eq_true, decide_eq_false, if_pos, if_neg, wrap_in, maxLen, Γ52, s54, k1d]; with_reducible rfl)); (focus (simp only [go_sem]; with_reducible rfl)); (focus (simp (disch := omega) only [go_sem, decide_eq_true, decide_eq_false, if_pos, if_neg, wrap_in, maxLen, Γ52, s54, k1d]; with_reducible rfl)))
        | (apply awp_cond_t; (focus (simp (disch := omega) only [go_sem, decide_eq_true, decide_eq_false, if_pos, if_neg, wrap_in, maxLen, Γ52, s54, k1d]; done))) | (apply awp_cond_f; (focus (simp (disch := omega) only [go_sem, decide_eq_true, decide_eq_false, if_pos, if_neg, wrap_in, maxLen, Γ52, s54, k1d]; done)))
        | (apply ret_e; (focus (simp (disch := omega) only [go_sem, decide_eq_true, decide_eq_false, if_pos, if_neg, wrap_in, maxLen, Γ52, s54, k1d]; with_reducible rfl)); (focus (simp (disch := omega) only [go_sem, decide_eq_true, decide_eq_false, if_pos, if_neg, wrap_in, maxLen, Γ52, s54, k1d]; with_reducible rfl))) | (apply end_e; (focus (simp (disch := omega) only [go_sem, decide_eq_true, decide_eq_false, if_pos, if_neg, wrap_in, maxLen, Γ52, s54, k1d]; with_reducible rfl)); (focus (simp (disch := omega) only [go_sem, decide_eq_true, decide_eq_false, if_pos, if_neg, wrap_in, maxLen, Γ52, s54, k1d]; with_reducible rfl)))
        | rfl)
      rw [hn, hcon]
end Go.Ab
namespace Go.Ab
open Go Go.RowKit Go.Proofs
set_option maxRecDepth 4000
set_option maxHeartbeats 1000000

/-! ### Chains from a node to itself -/
theorem Walk.first {E : Int → Int → Prop} {k : Nat} {a c : Int} (w : Walk E (k + 1) a c) : ∃ b, E a b ∧ Walk E k b c := by
  cases w with
  | cons h w => exact ⟨_, h, w⟩
theorem Walk.last {E : Int → Int → Prop} : ∀ {k : Nat} {a c : Int}, Walk E (k + 1) a c → ∃ b, Walk E k a b ∧ E b c
  | 0, a, c, w => by
    obtain ⟨b, h, w⟩ := w.first
    cases w
    exact ⟨a, .nil a, h⟩
  | k + 1, a, c, w => by
    obtain ⟨b, h, w⟩ := w.first
    obtain ⟨d, w', h'⟩ := w.last
    exact ⟨d, .cons h w', h'⟩
theorem step_iff {g : Graph} (h : InRange g) {a b : Int} : Step g (-1) a b ↔ ∃ e ∈ g.edges, e.fr = a ∧ e.to = b := by
  refine ⟨fun ⟨_, _, h⟩ => h, fun ⟨e, he, h1, h2⟩ => ?_⟩
  obtain ⟨r1, _, r3, _⟩ := h e he
  exact ⟨by omega, by omega, e, he, h1, h2⟩
theorem leads_iff {g : Graph} (h : InRange g) {a b : Int} : leads g a b = true ↔ ∃ k, Walk (Step g (-1)) (k + 1) a b := by
  simp only [leads, List.any_eq_true, decide_eq_true_eq]
  constructor
  · rintro ⟨e, he, rfl, hd⟩
    exact ⟨_, .cons ((step_iff h).2 ⟨e, he, rfl, rfl⟩) (walk_dist hd)⟩
  · rintro ⟨k, w⟩
    obtain ⟨c, hs, w⟩ := w.first
    obtain ⟨e, he, rfl, rfl⟩ := (step_iff h).1 hs
    exact ⟨e, he, rfl, (dist_walk w).1⟩
theorem leads_far {g : Graph} (h : InRange g) {a b : Int} (hab : a ≠ b) : leads g a b = decide (0 < dist g (-1) a b) := by
  rw [Bool.eq_iff_iff, leads_iff h, decide_eq_true_eq]
  constructor
  · rintro ⟨k, w⟩
    have h1 := (dist_walk w).1
    rcases Int.lt_or_eq_of_le h1 with h2 | h2
    · exact h2
    · exact absurd (dist_zero h2.symm) hab
  · intro hd
    have w := walk_dist (Int.le_of_lt hd)
    obtain ⟨k, hk⟩ : ∃ k, (dist g (-1) a b).toNat = k + 1 := ⟨(dist g (-1) a b).toNat - 1, by omega⟩
    rw [hk] at w
    exact ⟨k, w⟩
/-- The row of a node. -/
def rowOf (g : Graph) (back : Bool) (v : Int) : List Int := (nbs g back).getD v.toNat []
/-- How far a node is, from a node or with 'back' to it. -/
noncomputable def farD (g : Graph) (back : Bool) (a v : Int) : Int := if back then dist g (-1) v a else dist g (-1) a v
noncomputable def farSet (g : Graph) (back : Bool) (a : Int) : List Int := sieve g.nodes.length fun i => decide (0 < farD g back a i)
noncomputable def loopAt (g : Graph) (back : Bool) (a : Int) : Bool := (rowOf g back a).contains a || (farSet g back a).any fun n => (rowOf g back n).contains a
theorem sieve_mem {n : Nat} {p : Nat → Bool} {x : Int} : x ∈ sieve n p ↔ 0 ≤ x ∧ x < n ∧ p x.toNat = true := by
  simp only [sieve, List.mem_map, List.mem_filter, List.mem_range]
  constructor
  · rintro ⟨i, ⟨h1, h2⟩, rfl⟩
    exact ⟨by omega, by omega, by simpa using h2⟩
  · rintro ⟨h1, h2, h3⟩
    exact ⟨x.toNat, ⟨by omega, h3⟩, by omega⟩
theorem loopAt_eq {g : Graph} (h : InRange g) (back : Bool) {a : Int} (h0 : 0 ≤ a) : loopAt g back a = leads g a a := by
  have hrow : ∀ {b : Int}, 0 ≤ b → ((rowOf g back b).contains a = true ↔ if back then Step g (-1) a b else Step g (-1) b a) := fun {b} hb => by
    rw [List.contains_iff_mem, rowOf, nbs_mem h back hb]
    cases back with
    | true => simp only [if_true, step_iff h, ends, Prod.mk.injEq]; exact ⟨fun ⟨e, he, h1, h2⟩ => ⟨e, he, h2, h1⟩, fun ⟨e, he, h1, h2⟩ => ⟨e, he, h2, h1⟩⟩
    | false => simp only [Bool.false_eq_true, if_false, step_iff h, ends, Prod.mk.injEq]
  rw [Bool.eq_iff_iff, leads_iff h, loopAt, Bool.or_eq_true, List.any_eq_true, hrow h0]
  constructor
  · rintro (h1 | ⟨n, hn, h2⟩)
    · have h1' : Step g (-1) a a := by
        revert h1
        cases back <;> simp
      exact ⟨0, .cons h1' (.nil a)⟩
    · rw [farSet, sieve_mem] at hn
      obtain ⟨n0, n1, n2⟩ := hn
      rw [hrow n0] at h2
      have n2' := of_decide_eq_true n2
      rw [Int.toNat_of_nonneg n0] at n2'
      cases back with
      | true =>
        simp only [farD, if_true] at n2' h2
        exact ⟨_, .cons h2 (walk_dist (Int.le_of_lt n2'))⟩
      | false =>
        simp only [farD, Bool.false_eq_true, if_false] at n2' h2
        exact ⟨_, (walk_dist (Int.le_of_lt n2')).snoc h2⟩
  · rintro ⟨k, w⟩
    cases back with
    | true =>
      obtain ⟨n, hs, w'⟩ := w.first
      obtain ⟨_, _, n0, n1⟩ := step_in h hs
      have hd := (dist_walk w').1
      rcases Int.lt_or_eq_of_le hd with h2 | h2
      · refine .inr ⟨n, ?_, by rw [hrow n0]; simpa using hs⟩
        rw [farSet, sieve_mem]
        refine ⟨n0, n1, decide_eq_true ?_⟩
        rw [Int.toNat_of_nonneg n0]
        simpa [farD] using h2
      · have := dist_zero h2.symm
        subst this
        exact .inl (by simpa using hs)
    | false =>
      obtain ⟨n, w', hs⟩ := w.last
      obtain ⟨n0, n1, _, _⟩ := step_in h hs
      have hd := (dist_walk w').1
      rcases Int.lt_or_eq_of_le hd with h2 | h2
      · refine .inr ⟨n, ?_, by rw [hrow n0]; simpa using hs⟩
        rw [farSet, sieve_mem]
        refine ⟨n0, n1, decide_eq_true ?_⟩
        rw [Int.toNat_of_nonneg n0]
        simpa [farD] using h2
      · have := dist_zero h2.symm
        subst this
        exact .inl (by simpa using hs)

/-! ### A number put into its place -/
theorem sieve_congr {n : Nat} {p q : Nat → Bool} (h : ∀ i, i < n → p i = q i) : sieve n p = sieve n q := by
  unfold sieve
  congr 1
  exact List.filter_congr fun i hi => h i (List.mem_range.1 hi)
theorem sieve_sorted (n : Nat) (p : Nat → Bool) : (sieve n p).Pairwise (· < ·) := by
  unfold sieve
  rw [List.pairwise_map]
  exact (List.Pairwise.filter p List.pairwise_lt_range).imp fun h => by omega
theorem sieve_up {p : Nat → Bool} {a : Nat} (hp : p a = false) : ∀ m : Nat, ∃ up, sieve (a + 1 + m) p = sieve a p ++ up ∧ (sieve (a + 1 + m) fun i => p i || i == a) = sieve a p ++ (a : Int) :: up ∧ ∀ x ∈ up, (a : Int) < x
  | 0 => by
    refine ⟨[], ?_, ?_, by simp⟩
    · rw [Nat.add_zero, sieve_succ, hp]; simp
    · rw [Nat.add_zero, sieve_succ, sieve_congr (q := p) fun i hi => by
        have : (i == a) = false := by simp; omega
        rw [this, Bool.or_false]]
      simp
  | m + 1 => by
    obtain ⟨up, h1, h2, h3⟩ := sieve_up hp m
    have e : ((a + 1 + m) == a) = false := by simp; omega
    cases hq : p (a + 1 + m) with
    | true => refine ⟨up ++ [((a + 1 + m : Nat) : Int)], ?_, ?_, fun x hx => ?_⟩
              · rw [show a + 1 + (m + 1) = a + 1 + m + 1 from by omega, sieve_succ, h1, hq]; simp
              · rw [show a + 1 + (m + 1) = a + 1 + m + 1 from by omega, sieve_succ, h2, hq]; simp
              · rw [List.mem_append, List.mem_singleton] at hx
                rcases hx with hx | rfl
                · exact h3 x hx
                · omega
    | false => refine ⟨up, ?_, ?_, h3⟩
               · rw [show a + 1 + (m + 1) = a + 1 + m + 1 from by omega, sieve_succ, h1, hq]; simp
               · rw [show a + 1 + (m + 1) = a + 1 + m + 1 from by omega, sieve_succ, h2, hq, e]; simp
theorem sieve_put {n : Nat} {p : Nat → Bool} {a : Nat} (ha : a < n) (hp : p a = false) :
    (sieve n p).take (lessN (sieve n p) a) ++ (a : Int) :: (sieve n p).drop (lessN (sieve n p) a) = sieve n fun i => p i || i == a := by
  obtain ⟨up, h1, h2, h3⟩ := sieve_up hp (n - (a + 1))
  rw [show a + 1 + (n - (a + 1)) = n from by omega] at h1 h2
  have e : lessN (sieve n p) a = (sieve a p).length := by
    rw [lessN, h1, List.filter_append, List.filter_eq_self.2 fun x hx => ?_, List.filter_eq_nil_iff.2 fun x hx => ?_, List.append_nil]
    · have := h3 x hx
      simp
      omega
    · have := (sieve_mem.1 hx).2.1
      exact decide_eq_true this
  rw [e, h2, h1, List.take_left, List.drop_left]
/-- What Reach and Back make of the nodes that are far. -/
noncomputable def endsOf (g : Graph) (back : Bool) (a : Int) : List Int := if loopAt g back a then (farSet g back a).take (lessN (farSet g back a) a) ++ a :: (farSet g back a).drop (lessN (farSet g back a) a) else farSet g back a
theorem endsOf_eq {g : Graph} {back : Bool} {a : Int} (hv : valid g a = true) : endsOf g back a = if back then Ab.back g a else reach g a := by
  obtain ⟨hfit, h0, h1⟩ := valid_of hv
  have hin := hfit.inr
  have key : endsOf g back a = sieve g.nodes.length fun i => if back then leads g i a else leads g a i := by
    obtain ⟨n, rfl⟩ : ∃ n : Nat, a = n := ⟨a.toNat, by omega⟩
    have hself : decide (0 < farD g back n (n : Int)) = false := by
      unfold farD
      cases back <;> simp [dist_self]
    have hd : ∀ i : Nat, i ≠ n → decide (0 < farD g back n (i : Int)) = (if back then leads g i n else leads g n i) := fun i hi => by
      unfold farD
      cases back with
      | true => simp only [if_true]; rw [leads_far hin (by omega)]
      | false => simp only [Bool.false_eq_true, if_false]; rw [leads_far hin (by omega)]
    unfold endsOf
    cases hl : loopAt g back n with
    | true =>
      rw [if_pos rfl]
      rw [loopAt_eq hin back h0] at hl
      unfold farSet
      rw [sieve_put (by omega) hself]
      refine sieve_congr fun i hi => ?_
      by_cases hin2 : i = n
      · subst hin2
        simp [hl]
      · rw [hd i hin2]
        have : (i == n) = false := by simpa using hin2
        rw [this, Bool.or_false]
    | false =>
      rw [if_neg (by simp)]
      rw [loopAt_eq hin back h0] at hl
      refine sieve_congr fun i hi => ?_
      by_cases hin2 : i = n
      · subst hin2
        rw [hself]
        simp [hl]
      · exact hd i hin2
  rw [key]
  cases back with
  | true => simp [Ab.back, hv]
  | false => simp [reach, hv]
end Go.Ab
