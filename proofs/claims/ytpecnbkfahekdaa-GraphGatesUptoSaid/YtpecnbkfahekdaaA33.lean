/-
  One text of the proof (own work): contracts of functions of the program, by the abstract machine.
-/
import Derived.Test.YtpecnbkfahekdaaA27
import Derived.Test.YtpecnbkfahekdaaA19
import Derived.Test.YtpecnbkfahekdaaAw
import Derived.Test.YtpecnbkfahekdaaAbEval
set_option linter.unusedVariables false
set_option linter.unusedSimpArgs false
namespace Go.Ab
open Go Go.RowKit Go.Proofs
set_option maxRecDepth 4000
set_option maxHeartbeats 4000000

/-! ### IsSorted, of what is sorted -/
noncomputable def g28 : List D → Option D := encSpec (fun l : List Int => [ints l]) (fun l => l.length ≤ 1099511627776 ∧ l.Pairwise (· < ·)) (fun _ => .bool true)
theorem g28_eq {l : List Int} (h : l.length ≤ 1099511627776) (hp : l.Pairwise (· < ·)) : g28 [.list (l.map i64)] = some (.bool true) := encSpec_eq (x := l) ⟨h, hp⟩ fun y hy => rfl
theorem f28_ok : PureOK Try.prog 28 true g28 := by
  have hΓ := Γ52_ok
  refine pure_enc (n := 21) (rs := [.tmp 2]) Try.func28 (by kernel_rfl) rfl (by kernel_rfl) (by kernel_rfl) ?_
  rintro l ⟨hlen, hp⟩
  refine ⟨fun _ => .bool _, fun c hz0 => ?_⟩
  rw [start_frame (by simp)]; simp only [enumV, go_sem, emptyH]
  repeat (first
    | refine awp_seq ?_ | refine awp_block ?_ | refine awp_ret ?_ | refine awp_skip ?_ | refine awp_exit ?_ | refine awp_label ?_
    | refine then_normal ?_ | refine then_ret ?_ | refine then_exit ?_ | refine block_normal ?_ | refine block_ret ?_ | refine block_exit ?_ | refine block_out rfl ?_
    | (apply awp_reg hΓ; (focus (simp (disch := omega) only [go_sem, ↓reduceIte, decide_eq_true, decide_eq_false, if_pos, if_neg, wrap_in, maxLen]; with_reducible rfl)))
    | (apply awp_regf mixedOK hΓ (by kernel_rfl); (focus (simp (disch := omega) only [go_sem, ↓reduceIte, decide_eq_true, decide_eq_false, if_pos, if_neg, wrap_in, maxLen]; with_reducible rfl)); (focus (simp only [go_sem]; with_reducible rfl)))
    | (apply awp_regt mixedOK hΓ rfl; (focus kernel_rfl); (focus (simp (disch := omega) only [go_sem, ↓reduceIte, decide_eq_true, decide_eq_false, if_pos, if_neg, wrap_in, maxLen]; with_reducible rfl)); (focus (simp only [go_sem]; with_reducible rfl)); (focus (simp (disch := omega) only [go_sem, ↓reduceIte, decide_eq_true, decide_eq_false, if_pos, if_neg, wrap_in, maxLen]; with_reducible rfl)))
    | (apply awp_cond_t; (focus (simp (disch := omega) only [go_sem, ↓reduceIte, decide_eq_true, decide_eq_false, if_pos, if_neg, wrap_in, maxLen]; done))) | (apply awp_cond_f; (focus (simp (disch := omega) only [go_sem, ↓reduceIte, decide_eq_true, decide_eq_false, if_pos, if_neg, wrap_in, maxLen]; done)))
    | (apply ret_e; (focus (simp (disch := omega) only [go_sem, ↓reduceIte, decide_eq_true, decide_eq_false, if_pos, if_neg, wrap_in, maxLen]; with_reducible rfl)); (focus (simp (disch := omega) only [go_sem, ↓reduceIte, decide_eq_true, decide_eq_false, if_pos, if_neg, wrap_in, maxLen]; with_reducible rfl))) | (apply end_e; (focus (simp (disch := omega) only [go_sem, ↓reduceIte, decide_eq_true, decide_eq_false, if_pos, if_neg, wrap_in, maxLen]; with_reducible rfl)); (focus (simp (disch := omega) only [go_sem, ↓reduceIte, decide_eq_true, decide_eq_false, if_pos, if_neg, wrap_in, maxLen]; with_reducible rfl)))
    | rfl)
  refine awp_loop_at (X := Int) (fun x => (frame 21 [(0, .data (.list (l.map i64))), (3, .data (i64 x))])) (fun _ => []) 0 (fun x => -1 ≤ x ∧ x < l.length) (fun x => x.toNat) ((l.length : Int) - 1) ⟨by omega, by omega⟩ (Weak.ofF (by omega) (by simp [ConvF, lookV, Conv, ints]) (by (simp (disch := omega) only [TabSub, look, if_pos, if_neg, Obj.refsOK, refsOKs, AV.refsOK, decide_eq_true_eq, Bool.and_true, Bool.and_self] ) <;> ((repeat' apply And.intro) <;> first | trivial | omega | rfl | (simp; done))) (by simp (disch := omega) only [refsF, AV.refsOK, Bool.and_true, Bool.and_self, decide_eq_true_eq, Bool.true_and, Bool.and_eq_true]; try omega)) ?_
  rintro x ⟨hx0, hx1⟩
  by_cases hx : 0 < x
  · have hxl : x.toNat < l.length := by omega
    have hyl : (x - 1).toNat < l.length := by omega
    have hlt : ¬ l[x.toNat] < l[(x - 1).toNat] := by
      have := List.pairwise_iff_getElem.1 hp (x - 1).toNat x.toNat hyl hxl (by omega)
      omega
    have hltd : decide (l[x.toNat] < l[(x - 1).toNat]) = false := decide_eq_false hlt
    repeat (first
      | refine awp_seq ?_ | refine awp_block ?_ | refine awp_ret ?_ | refine awp_skip ?_ | refine awp_exit ?_ | refine awp_label ?_
      | refine then_normal ?_ | refine then_ret ?_ | refine then_exit ?_ | refine block_normal ?_ | refine block_ret ?_ | refine block_exit ?_ | refine block_out rfl ?_
      | (apply awp_reg hΓ; (focus (simp (disch := omega) only [go_sem, ↓reduceIte, decide_eq_true, decide_eq_false, if_pos, if_neg, wrap_in, maxLen, Γ52, s45, hltd]; with_reducible rfl)))
      | (apply awp_regf mixedOK hΓ (by kernel_rfl); (focus (simp (disch := omega) only [go_sem, ↓reduceIte, decide_eq_true, decide_eq_false, if_pos, if_neg, wrap_in, maxLen, Γ52, s45, hltd]; with_reducible rfl)); (focus (simp only [go_sem]; with_reducible rfl)))
      | (apply awp_regt mixedOK hΓ rfl; (focus kernel_rfl); (focus (simp (disch := omega) only [go_sem, ↓reduceIte, decide_eq_true, decide_eq_false, if_pos, if_neg, wrap_in, maxLen, Γ52, s45, hltd]; with_reducible rfl)); (focus (simp only [go_sem]; with_reducible rfl)); (focus (simp (disch := omega) only [go_sem, ↓reduceIte, decide_eq_true, decide_eq_false, if_pos, if_neg, wrap_in, maxLen, Γ52, s45, hltd]; with_reducible rfl)))
      | (apply awp_cond_t; (focus (simp (disch := omega) only [go_sem, ↓reduceIte, decide_eq_true, decide_eq_false, if_pos, if_neg, wrap_in, maxLen, Γ52, s45, hltd]; done))) | (apply awp_cond_f; (focus (simp (disch := omega) only [go_sem, ↓reduceIte, decide_eq_true, decide_eq_false, if_pos, if_neg, wrap_in, maxLen, Γ52, s45, hltd]; done)))
      | (apply ret_e; (focus (simp (disch := omega) only [go_sem, ↓reduceIte, decide_eq_true, decide_eq_false, if_pos, if_neg, wrap_in, maxLen, Γ52, s45, hltd]; with_reducible rfl)); (focus (simp (disch := omega) only [go_sem, ↓reduceIte, decide_eq_true, decide_eq_false, if_pos, if_neg, wrap_in, maxLen, Γ52, s45, hltd]; with_reducible rfl))) | (apply end_e; (focus (simp (disch := omega) only [go_sem, ↓reduceIte, decide_eq_true, decide_eq_false, if_pos, if_neg, wrap_in, maxLen, Γ52, s45, hltd]; with_reducible rfl)); (focus (simp (disch := omega) only [go_sem, ↓reduceIte, decide_eq_true, decide_eq_false, if_pos, if_neg, wrap_in, maxLen, Γ52, s45, hltd]; with_reducible rfl)))
      | rfl)
    exact ⟨x - 1, ⟨by omega, by omega⟩, by omega, Weak.ofF (by omega) (by simp [ConvF, lookV, Conv, ints]) (by (simp (disch := omega) only [TabSub, look, if_pos, if_neg, Obj.refsOK, refsOKs, AV.refsOK, decide_eq_true_eq, Bool.and_true, Bool.and_self] ) <;> ((repeat' apply And.intro) <;> first | trivial | omega | rfl | (simp; done))) (by simp (disch := omega) only [refsF, AV.refsOK, Bool.and_true, Bool.and_self, decide_eq_true_eq, Bool.true_and, Bool.and_eq_true]; try omega)⟩
  · repeat (first
    | refine awp_seq ?_ | refine awp_block ?_ | refine awp_ret ?_ | refine awp_skip ?_ | refine awp_exit ?_ | refine awp_label ?_
    | refine then_normal ?_ | refine then_ret ?_ | refine then_exit ?_ | refine block_normal ?_ | refine block_ret ?_ | refine block_exit ?_ | refine block_out rfl ?_
    | (apply awp_reg hΓ; (focus (simp (disch := omega) only [go_sem, ↓reduceIte, decide_eq_true, decide_eq_false, if_pos, if_neg, wrap_in, maxLen]; with_reducible rfl)))
    | (apply awp_regf mixedOK hΓ (by kernel_rfl); (focus (simp (disch := omega) only [go_sem, ↓reduceIte, decide_eq_true, decide_eq_false, if_pos, if_neg, wrap_in, maxLen]; with_reducible rfl)); (focus (simp only [go_sem]; with_reducible rfl)))
    | (apply awp_regt mixedOK hΓ rfl; (focus kernel_rfl); (focus (simp (disch := omega) only [go_sem, ↓reduceIte, decide_eq_true, decide_eq_false, if_pos, if_neg, wrap_in, maxLen]; with_reducible rfl)); (focus (simp only [go_sem]; with_reducible rfl)); (focus (simp (disch := omega) only [go_sem, ↓reduceIte, decide_eq_true, decide_eq_false, if_pos, if_neg, wrap_in, maxLen]; with_reducible rfl)))
    | (apply awp_cond_t; (focus (simp (disch := omega) only [go_sem, ↓reduceIte, decide_eq_true, decide_eq_false, if_pos, if_neg, wrap_in, maxLen]; done))) | (apply awp_cond_f; (focus (simp (disch := omega) only [go_sem, ↓reduceIte, decide_eq_true, decide_eq_false, if_pos, if_neg, wrap_in, maxLen]; done)))
    | (apply ret_e; (focus (simp (disch := omega) only [go_sem, ↓reduceIte, decide_eq_true, decide_eq_false, if_pos, if_neg, wrap_in, maxLen]; with_reducible rfl)); (focus (simp (disch := omega) only [go_sem, ↓reduceIte, decide_eq_true, decide_eq_false, if_pos, if_neg, wrap_in, maxLen]; with_reducible rfl))) | (apply end_e; (focus (simp (disch := omega) only [go_sem, ↓reduceIte, decide_eq_true, decide_eq_false, if_pos, if_neg, wrap_in, maxLen]; with_reducible rfl)); (focus (simp (disch := omega) only [go_sem, ↓reduceIte, decide_eq_true, decide_eq_false, if_pos, if_neg, wrap_in, maxLen]; with_reducible rfl)))
    | rfl)

/-! ### A graph without the edges of a node -/
def lessG (g : Graph) (i : Int) : Graph := ⟨g.nodes, g.edges.filter fun e => e.fr != i && e.to != i⟩
theorem asc_pair {α : Type} {lt : α → α → Bool} (ht : ∀ a b c, lt a b = true → lt b c = true → lt a c = true) {l : List α} (h : Asc lt l) : l.Pairwise (fun a b => lt a b = true) := by
  rw [List.pairwise_iff_getElem]
  intro i j hi hj hij
  induction j with
  | zero => omega
  | succ j ih =>
    have h1 := h (j + 1) (by omega) hj
    simp only [Nat.add_sub_cancel] at h1
    rcases Nat.lt_or_eq_of_le (Nat.le_of_lt_succ hij) with h2 | h2
    · exact ht _ _ _ (ih (by omega) h2) h1
    · subst h2; exact h1
theorem pair_asc {α : Type} {lt : α → α → Bool} {l : List α} (h : l.Pairwise (fun a b => lt a b = true)) : Asc lt l := fun j hj hjl => List.pairwise_iff_getElem.1 h (j - 1) j (by omega) hjl (by omega)
theorem eLt_iff (a b : Edge) : eLt a b = true ↔ a.fr < b.fr ∨ (a.fr = b.fr ∧ (a.to < b.to ∨ (a.to = b.to ∧ a.st < b.st))) := by
  unfold eLt
  by_cases h1 : a.fr = b.fr
  · by_cases h2 : a.to = b.to
    · simp [h1, h2]
    · simp [h1, h2]
  · simp [h1]
theorem eLt_trans (a b c : Edge) (h1 : eLt a b = true) (h2 : eLt b c = true) : eLt a c = true := by
  rw [eLt_iff] at *
  omega
theorem chk_less {g : Graph} (h : chk g = 0) (i : Int) : chk (lessG g i) = 0 := by
  unfold chk at h ⊢
  split at h
  · omega
  rename_i h1
  split at h
  · omega
  rename_i h2
  split at h
  · omega
  rename_i h3
  split at h
  · omega
  rename_i h4
  split at h
  · omega
  rename_i h5
  have hl : (lessG g i).edges.length ≤ g.edges.length := List.length_filter_le _ _
  have en : (lessG g i).nodes = g.nodes := rfl
  rw [en, if_neg (by omega), if_neg h2, if_neg h3, if_neg, if_neg]
  · simp only [Classical.not_not] at h5 ⊢
    exact pair_asc ((asc_pair eLt_trans h5).filter _)
  · intro hh
    obtain ⟨e, he, ho⟩ := List.any_eq_true.1 hh
    exact h4 (List.any_eq_true.2 ⟨e, (List.mem_filter.1 he).1, ho⟩)
theorem step_less {g : Graph} (h : InRange g) {i u v : Int} : Step (lessG g i) (-1) u v ↔ Step g i u v := by
  constructor
  · rintro ⟨_, _, e, he, rfl, rfl⟩
    obtain ⟨h1, h2⟩ := List.mem_filter.1 he
    simp only [Bool.and_eq_true, bne_iff_ne, ne_eq] at h2
    exact ⟨h2.1, h2.2, e, h1, rfl, rfl⟩
  · rintro ⟨h1, h2, e, he, rfl, rfl⟩
    obtain ⟨r1, _, r3, _⟩ := h e he
    exact ⟨by omega, by omega, e, List.mem_filter.2 ⟨he, by simp [h1, h2]⟩, rfl, rfl⟩
theorem dist_less {g : Graph} (h : InRange g) (i a b : Int) : dist (lessG g i) (-1) a b = dist g i a b := by
  have : Step (lessG g i) (-1) = Step g i := funext fun u => funext fun v => propext (step_less h)
  unfold dist
  rw [this]
theorem gates_has {g : Graph} {a b : Int} (ha : valid g a = true) (hb : valid g b = true) (hd : 0 ≤ dist g (-1) a b) {i : Nat} (hi : i < g.nodes.length) : (gates g a b).contains (i : Int) = isGate g a b i := by
  rw [Bool.eq_iff_iff, List.contains_iff_mem]
  simp only [gates, ha, hb, hd, Bool.and_self, decide_true, if_true, sieve_mem, Int.toNat_natCast]
  exact ⟨fun h => h.2.2, fun h => ⟨by omega, by omega, h⟩⟩
theorem gates_sorted (g : Graph) (a b : Int) : (gates g a b).Pairwise (· < ·) := by
  unfold gates
  split
  · exact sieve_sorted _ _
  · exact List.Pairwise.nil
end Go.Ab
