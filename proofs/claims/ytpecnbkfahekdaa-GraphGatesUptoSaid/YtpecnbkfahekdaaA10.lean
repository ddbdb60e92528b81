/-
  One text of the proof (own work): contracts of functions of the program, by the abstract machine.
-/
import Derived.Test.YtpecnbkfahekdaaA9
set_option linter.unusedVariables false
set_option linter.unusedSimpArgs false
namespace Go.Ab
open Go Go.RowKit Go.Proofs
set_option maxRecDepth 4000
set_option maxHeartbeats 1000000

theorem distTo_len (g : Graph) (to without : Int) : (distTo g to without).length = g.nodes.length := by simp [distTo]
theorem distTo_get {g : Graph} {to without v : Int} (h0 : 0 ≤ v) (h : v.toNat < (distTo g to without).length) : (distTo g to without)[v.toNat] = dist g without v to := by
  simp only [distTo, List.getElem_map, List.getElem_range]
  congr 1
  omega
open Classical in
noncomputable def leads (g : Graph) (a b : Int) : Bool := g.edges.any fun e => decide (e.fr = a ∧ 0 ≤ dist g (-1) e.to b)
structure Fit (g : Graph) : Prop where
  nodes : g.nodes.length ≤ 1024
  edges : g.edges.length ≤ 1024
  inr : InRange g
theorem Fit.dom {g : Graph} (h : Fit g) {to without : Int} (h0 : 0 ≤ to) (h1 : to < g.nodes.length) (h2 : to ≠ without) : Dom38 g to without := ⟨h.nodes, h.edges, h.inr, h0, h1, h2⟩
noncomputable def g44 : List D → Option D := encSpec (fun x : Graph × Int × Int => [gD x.1, i64 x.2.1, i64 x.2.2]) (fun x => Fit x.1 ∧ 0 ≤ x.2.2 ∧ x.2.2 < x.1.nodes.length) (fun x => .bool (leads x.1 x.2.1 x.2.2))
theorem gII_inj {g g' : Graph} {a a' b b' : Int} (h : [gD g', i64 a', i64 b'] = [gD g, i64 a, i64 b]) : g' = g ∧ a' = a ∧ b' = b := by
  simp only [List.cons.injEq, and_true] at h
  exact ⟨gD_inj h.1, i64_inj _ _ h.2.1, i64_inj _ _ h.2.2⟩
theorem gI_inj {g g' : Graph} {a a' : Int} (h : [gD g', i64 a'] = [gD g, i64 a]) : g' = g ∧ a' = a := by
  simp only [List.cons.injEq, and_true] at h
  exact ⟨gD_inj h.1, i64_inj _ _ h.2⟩
theorem g44_eq {g : Graph} {a b : Int} (h : Fit g) (h0 : 0 ≤ b) (h1 : b < g.nodes.length) : g44 [.agg [.list (g.nodes.map .str), .list (g.edges.map eD)], .int .i64 a, .int .i64 b] = some (.bool (leads g a b)) :=
  encSpec_eq (x := (g, a, b)) ⟨h, h0, h1⟩ fun y hy => by
    obtain ⟨y1, y2, y3⟩ := y
    obtain ⟨rfl, rfl, rfl⟩ := gII_inj hy
    rfl
noncomputable def Γp (f : FuncId) (g : List D → Option D) : FuncId → Option CSpec := fun f' => if f' = f then some (.pure false g) else none
theorem Γp_ok {f : FuncId} {g : List D → Option D} (h : PureOK Try.prog f false g) : ∀ f' s, Γp f g f' = some s → SpecOK Try.prog f' s := by
  intro f' s hs
  unfold Γp at hs
  split at hs
  · rename_i hf; cases hs; subst hf; exact h
  · cases hs
theorem f44_ok : PureOK Try.prog 44 true g44 := by
  have hΓ := Γp_ok f38_ok
  refine pure_enc (n := 39) (rs := [.tmp 6]) Try.func44 (by kernel_rfl) rfl (by kernel_rfl) (by kernel_rfl) ?_
  rintro ⟨g, a, b⟩ ⟨hfit, hb0, hb1⟩
  dsimp only at hfit hb0 hb1
  obtain ⟨hn, he, hin⟩ := hfit
  refine ⟨fun _ => .bool _, fun c hz0 => ?_⟩
  have e38 := g38_eq (Fit.dom ⟨hn, he, hin⟩ hb0 hb1 (show b ≠ -1 by omega))
  have hlen := distTo_len g b (-1)
  have hget : ∀ v : Int, 0 ≤ v → ∀ h : v.toNat < (distTo g b (-1)).length, (distTo g b (-1))[v.toNat] = dist g (-1) v b := fun v h0 h => distTo_get h0 h
  generalize distTo g b (-1) = d at e38 hlen hget
  simp only [start, go_sem, emptyH, List.replicate_succ, List.replicate_zero]
  repeat (first
    | refine awp_seq ?_ | refine awp_block ?_ | refine awp_ret ?_ | refine awp_skip ?_ | refine awp_exit ?_ | refine awp_label ?_
    | refine then_normal ?_ | refine then_ret ?_ | refine then_exit ?_ | refine block_normal ?_ | refine block_ret ?_ | refine block_exit ?_ | refine block_out rfl ?_
    | (apply awp_reg hΓ; (focus (simp (disch := omega) only [go_sem, decide_eq_true, decide_eq_false, if_pos, if_neg, wrap_in, maxLen, Γp, e38]; with_reducible rfl)))
    | (apply awp_regf mixedOK hΓ (by kernel_rfl); (focus (simp (disch := omega) only [go_sem, decide_eq_true, decide_eq_false, if_pos, if_neg, wrap_in, maxLen, Γp, e38]; with_reducible rfl)); (focus (simp only [go_sem]; with_reducible rfl)))
    | (apply awp_regt mixedOK hΓ rfl; (focus kernel_rfl); (focus (simp (disch := omega) only [go_sem, decide_eq_true, decide_eq_false, if_pos, if_neg, wrap_in, maxLen, Γp, e38]; with_reducible rfl)); (focus (simp only [go_sem]; with_reducible rfl)); (focus (simp (disch := omega) only [go_sem, decide_eq_true, decide_eq_false, if_pos, if_neg, wrap_in, maxLen, Γp, e38]; with_reducible rfl)))
    | (apply awp_cond_t; (focus (simp (disch := omega) only [go_sem, decide_eq_true, decide_eq_false, if_pos, if_neg, wrap_in, maxLen, Γp, e38]; done))) | (apply awp_cond_f; (focus (simp (disch := omega) only [go_sem, decide_eq_true, decide_eq_false, if_pos, if_neg, wrap_in, maxLen, Γp, e38]; done)))
    | (apply ret_e; (focus (simp (disch := omega) only [go_sem, decide_eq_true, decide_eq_false, if_pos, if_neg, wrap_in, maxLen, Γp, e38]; with_reducible rfl)); (focus (simp (disch := omega) only [go_sem, decide_eq_true, decide_eq_false, if_pos, if_neg, wrap_in, maxLen, Γp, e38]; with_reducible rfl))) | (apply end_e; (focus (simp (disch := omega) only [go_sem, decide_eq_true, decide_eq_false, if_pos, if_neg, wrap_in, maxLen, Γp, e38]; with_reducible rfl)); (focus (simp (disch := omega) only [go_sem, decide_eq_true, decide_eq_false, if_pos, if_neg, wrap_in, maxLen, Γp, e38]; with_reducible rfl)))
    | rfl)
  refine awp_loop_at (X := Nat) (fun i => (.junk :: .data (i64 a) :: .junk :: .ptr 0 0 :: .junk :: .junk :: .junk :: .data (ints d) :: .data (i64 i) :: .junk :: .junk :: .junk :: .junk :: .junk :: .junk :: .junk :: .junk :: .junk :: .junk :: .junk :: .junk :: .junk :: .junk :: .junk :: .junk :: .junk :: .junk :: .junk :: .junk :: .junk :: .junk :: .junk :: .junk :: .junk :: .junk :: .junk :: .junk :: .junk :: .junk :: []))
    (fun i => [(0, .box [.data (.list (g.nodes.map .str)), .data (.list (g.edges.map eD))])]) 1
    (fun i => i ≤ g.edges.length ∧ (g.edges.take i).any (fun e => decide (e.fr = a ∧ 0 ≤ dist g (-1) e.to b)) = false) (fun i => g.edges.length - i) 0 ⟨Nat.zero_le _, rfl⟩ (Weak.of (by omega) (by simp [ConvL, Conv, ints]) (by simp [TabSub, look, Obj.refsOK, refsOKs, AV.refsOK]) (by simp [refsOKs, AV.refsOK])) ?_
  rintro i ⟨hi, hpre⟩
  repeat (first
    | refine awp_seq ?_ | refine awp_block ?_ | refine awp_ret ?_ | refine awp_skip ?_ | refine awp_exit ?_ | refine awp_label ?_
    | refine then_normal ?_ | refine then_ret ?_ | refine then_exit ?_ | refine block_normal ?_ | refine block_ret ?_ | refine block_exit ?_ | refine block_out rfl ?_
    | (apply awp_reg hΓ; (focus (simp (disch := omega) only [go_sem, decide_eq_true, decide_eq_false, if_pos, if_neg, wrap_in, maxLen]; with_reducible rfl)))
    | (apply awp_regf mixedOK hΓ (by kernel_rfl); (focus (simp (disch := omega) only [go_sem, decide_eq_true, decide_eq_false, if_pos, if_neg, wrap_in, maxLen]; with_reducible rfl)); (focus (simp only [go_sem]; with_reducible rfl)))
    | (apply awp_regt mixedOK hΓ rfl; (focus kernel_rfl); (focus (simp (disch := omega) only [go_sem, decide_eq_true, decide_eq_false, if_pos, if_neg, wrap_in, maxLen]; with_reducible rfl)); (focus (simp only [go_sem]; with_reducible rfl)); (focus (simp (disch := omega) only [go_sem, decide_eq_true, decide_eq_false, if_pos, if_neg, wrap_in, maxLen]; with_reducible rfl)))
    | (apply awp_cond_t; (focus (simp (disch := omega) only [go_sem, decide_eq_true, decide_eq_false, if_pos, if_neg, wrap_in, maxLen]; done))) | (apply awp_cond_f; (focus (simp (disch := omega) only [go_sem, decide_eq_true, decide_eq_false, if_pos, if_neg, wrap_in, maxLen]; done)))
    | (apply ret_e; (focus (simp (disch := omega) only [go_sem, decide_eq_true, decide_eq_false, if_pos, if_neg, wrap_in, maxLen]; with_reducible rfl)); (focus (simp (disch := omega) only [go_sem, decide_eq_true, decide_eq_false, if_pos, if_neg, wrap_in, maxLen]; with_reducible rfl))) | (apply end_e; (focus (simp (disch := omega) only [go_sem, decide_eq_true, decide_eq_false, if_pos, if_neg, wrap_in, maxLen]; with_reducible rfl)); (focus (simp (disch := omega) only [go_sem, decide_eq_true, decide_eq_false, if_pos, if_neg, wrap_in, maxLen]; with_reducible rfl)))
    | rfl)
  refine awp_cond (by simp (disch := omega) only [go_sem]; rfl) (fun hc => ?_) (fun hc => ?_)
  · have hi' : i < g.edges.length := by simpa using hc
    have hmem := List.getElem_mem hi'
    have hnext := fun h => any_next (p := fun e : Edge => decide (e.fr = a ∧ 0 ≤ dist g (-1) e.to b)) hi' hpre h
    generalize hx : g.edges[i] = x at hmem hnext
    obtain ⟨r1, r2, r3, r4⟩ := hin _ hmem
    have q2 : x.to.toNat < d.length := by omega
    have hg := hget x.to r3 q2
    by_cases k1 : x.fr = a
    · have k1' : (x.fr == a) = true := by simpa using k1
      by_cases k2 : 0 ≤ dist g (-1) x.to b
      · repeat (first
        | refine awp_seq ?_ | refine awp_block ?_ | refine awp_ret ?_ | refine awp_skip ?_ | refine awp_exit ?_ | refine awp_label ?_
        | refine then_normal ?_ | refine then_ret ?_ | refine then_exit ?_ | refine block_normal ?_ | refine block_ret ?_ | refine block_exit ?_ | refine block_out rfl ?_
        | (apply awp_reg hΓ; (focus (simp (disch := omega) only [go_sem, decide_eq_true, decide_eq_false, if_pos, if_neg, wrap_in, maxLen, hx, k1', hg]; with_reducible rfl)))
        | (apply awp_regf mixedOK hΓ (by kernel_rfl); (focus (simp (disch := omega) only [go_sem, decide_eq_true, decide_eq_false, if_pos, if_neg, wrap_in, maxLen, hx, k1', hg]; with_reducible rfl)); (focus (simp only [go_sem]; with_reducible rfl)))
        | (apply awp_regt mixedOK hΓ rfl; (focus kernel_rfl); (focus (simp (disch := omega) only [go_sem, decide_eq_true, decide_eq_false, if_pos, if_neg, wrap_in, maxLen, hx, k1', hg]; with_reducible rfl)); (focus (simp only [go_sem]; with_reducible rfl)); (focus (simp (disch := omega) only [go_sem, decide_eq_true, decide_eq_false, if_pos, if_neg, wrap_in, maxLen, hx, k1', hg]; with_reducible rfl)))
        | (apply awp_cond_t; (focus (simp (disch := omega) only [go_sem, decide_eq_true, decide_eq_false, if_pos, if_neg, wrap_in, maxLen, hx, k1', hg]; done))) | (apply awp_cond_f; (focus (simp (disch := omega) only [go_sem, decide_eq_true, decide_eq_false, if_pos, if_neg, wrap_in, maxLen, hx, k1', hg]; done)))
        | (apply ret_e; (focus (simp (disch := omega) only [go_sem, decide_eq_true, decide_eq_false, if_pos, if_neg, wrap_in, maxLen, hx, k1', hg]; with_reducible rfl)); (focus (simp (disch := omega) only [go_sem, decide_eq_true, decide_eq_false, if_pos, if_neg, wrap_in, maxLen, hx, k1', hg]; with_reducible rfl))) | (apply end_e; (focus (simp (disch := omega) only [go_sem, decide_eq_true, decide_eq_false, if_pos, if_neg, wrap_in, maxLen, hx, k1', hg]; with_reducible rfl)); (focus (simp (disch := omega) only [go_sem, decide_eq_true, decide_eq_false, if_pos, if_neg, wrap_in, maxLen, hx, k1', hg]; with_reducible rfl)))
        | rfl)
        congr 1
        exact (List.any_eq_true.2 ⟨x, hmem, by simp [k1, k2]⟩).symm
      · repeat (first
        | refine awp_seq ?_ | refine awp_block ?_ | refine awp_ret ?_ | refine awp_skip ?_ | refine awp_exit ?_ | refine awp_label ?_
        | refine then_normal ?_ | refine then_ret ?_ | refine then_exit ?_ | refine block_normal ?_ | refine block_ret ?_ | refine block_exit ?_ | refine block_out rfl ?_
        | (apply awp_reg hΓ; (focus (simp (disch := omega) only [go_sem, decide_eq_true, decide_eq_false, if_pos, if_neg, wrap_in, maxLen, hx, k1', hg]; with_reducible rfl)))
        | (apply awp_regf mixedOK hΓ (by kernel_rfl); (focus (simp (disch := omega) only [go_sem, decide_eq_true, decide_eq_false, if_pos, if_neg, wrap_in, maxLen, hx, k1', hg]; with_reducible rfl)); (focus (simp only [go_sem]; with_reducible rfl)))
        | (apply awp_regt mixedOK hΓ rfl; (focus kernel_rfl); (focus (simp (disch := omega) only [go_sem, decide_eq_true, decide_eq_false, if_pos, if_neg, wrap_in, maxLen, hx, k1', hg]; with_reducible rfl)); (focus (simp only [go_sem]; with_reducible rfl)); (focus (simp (disch := omega) only [go_sem, decide_eq_true, decide_eq_false, if_pos, if_neg, wrap_in, maxLen, hx, k1', hg]; with_reducible rfl)))
        | (apply awp_cond_t; (focus (simp (disch := omega) only [go_sem, decide_eq_true, decide_eq_false, if_pos, if_neg, wrap_in, maxLen, hx, k1', hg]; done))) | (apply awp_cond_f; (focus (simp (disch := omega) only [go_sem, decide_eq_true, decide_eq_false, if_pos, if_neg, wrap_in, maxLen, hx, k1', hg]; done)))
        | (apply ret_e; (focus (simp (disch := omega) only [go_sem, decide_eq_true, decide_eq_false, if_pos, if_neg, wrap_in, maxLen, hx, k1', hg]; with_reducible rfl)); (focus (simp (disch := omega) only [go_sem, decide_eq_true, decide_eq_false, if_pos, if_neg, wrap_in, maxLen, hx, k1', hg]; with_reducible rfl))) | (apply end_e; (focus (simp (disch := omega) only [go_sem, decide_eq_true, decide_eq_false, if_pos, if_neg, wrap_in, maxLen, hx, k1', hg]; with_reducible rfl)); (focus (simp (disch := omega) only [go_sem, decide_eq_true, decide_eq_false, if_pos, if_neg, wrap_in, maxLen, hx, k1', hg]; with_reducible rfl)))
        | rfl)
        exact ⟨i + 1, ⟨by omega, hnext (by simp [k2])⟩, by omega, Weak.of (by omega) (by simp [ConvL, Conv, ints]) (by simp [TabSub, look, Obj.refsOK, refsOKs, AV.refsOK]) (by simp [refsOKs, AV.refsOK])⟩
    · have k1' : (x.fr == a) = false := by simpa using k1
      repeat (first
        | refine awp_seq ?_ | refine awp_block ?_ | refine awp_ret ?_ | refine awp_skip ?_ | refine awp_exit ?_ | refine awp_label ?_
        | refine then_normal ?_ | refine then_ret ?_ | refine then_exit ?_ | refine block_normal ?_ | refine block_ret ?_ | refine block_exit ?_ | refine block_out rfl ?_
        | (apply awp_reg hΓ; (focus (simp (disch := omega) only [go_sem, decide_eq_true, decide_eq_false, if_pos, if_neg, wrap_in, maxLen, hx, k1', hg]; with_reducible rfl)))
        | (apply awp_regf mixedOK hΓ (by kernel_rfl); (focus (simp (disch := omega) only [go_sem, decide_eq_true, decide_eq_false, if_pos, if_neg, wrap_in, maxLen, hx, k1', hg]; with_reducible rfl)); (focus (simp only [go_sem]; with_reducible rfl)))
        | (apply awp_regt mixedOK hΓ rfl; (focus kernel_rfl); (focus (simp (disch := omega) only [go_sem, decide_eq_true, decide_eq_false, if_pos, if_neg, wrap_in, maxLen, hx, k1', hg]; with_reducible rfl)); (focus (simp only [go_sem]; with_reducible rfl)); (focus (simp (disch := omega) only [go_sem, decide_eq_true, decide_eq_false, if_pos, if_neg, wrap_in, maxLen, hx, k1', hg]; with_reducible rfl)))
        | (apply awp_cond_t; (focus (simp (disch := omega) only [go_sem, decide_eq_true, decide_eq_false, if_pos, if_neg, wrap_in, maxLen, hx, k1', hg]; done))) | (apply awp_cond_f; (focus (simp (disch := omega) only [go_sem, decide_eq_true, decide_eq_false, if_pos, if_neg, wrap_in, maxLen, hx, k1', hg]; done)))
        | (apply ret_e; (focus (simp (disch := omega) only [go_sem, decide_eq_true, decide_eq_false, if_pos, if_neg, wrap_in, maxLen, hx, k1', hg]; with_reducible rfl)); (focus (simp (disch := omega) only [go_sem, decide_eq_true, decide_eq_false, if_pos, if_neg, wrap_in, maxLen, hx, k1', hg]; with_reducible rfl))) | (apply end_e; (focus (simp (disch := omega) only [go_sem, decide_eq_true, decide_eq_false, if_pos, if_neg, wrap_in, maxLen, hx, k1', hg]; with_reducible rfl)); (focus (simp (disch := omega) only [go_sem, decide_eq_true, decide_eq_false, if_pos, if_neg, wrap_in, maxLen, hx, k1', hg]; with_reducible rfl)))
        | rfl)
      exact ⟨i + 1, ⟨by omega, hnext (by simp [k1])⟩, by omega, Weak.of (by omega) (by simp [ConvL, Conv, ints]) (by simp [TabSub, look, Obj.refsOK, refsOKs, AV.refsOK]) (by simp [refsOKs, AV.refsOK])⟩
  · repeat (first
    | refine awp_seq ?_ | refine awp_block ?_ | refine awp_ret ?_ | refine awp_skip ?_ | refine awp_exit ?_ | refine awp_label ?_
    | refine then_normal ?_ | refine then_ret ?_ | refine then_exit ?_ | refine block_normal ?_ | refine block_ret ?_ | refine block_exit ?_ | refine block_out rfl ?_
    | (apply awp_reg hΓ; (focus (simp (disch := omega) only [go_sem, decide_eq_true, decide_eq_false, if_pos, if_neg, wrap_in, maxLen]; with_reducible rfl)))
    | (apply awp_regf mixedOK hΓ (by kernel_rfl); (focus (simp (disch := omega) only [go_sem, decide_eq_true, decide_eq_false, if_pos, if_neg, wrap_in, maxLen]; with_reducible rfl)); (focus (simp only [go_sem]; with_reducible rfl)))
    | (apply awp_regt mixedOK hΓ rfl; (focus kernel_rfl); (focus (simp (disch := omega) only [go_sem, decide_eq_true, decide_eq_false, if_pos, if_neg, wrap_in, maxLen]; with_reducible rfl)); (focus (simp only [go_sem]; with_reducible rfl)); (focus (simp (disch := omega) only [go_sem, decide_eq_true, decide_eq_false, if_pos, if_neg, wrap_in, maxLen]; with_reducible rfl)))
    | (apply awp_cond_t; (focus (simp (disch := omega) only [go_sem, decide_eq_true, decide_eq_false, if_pos, if_neg, wrap_in, maxLen]; done))) | (apply awp_cond_f; (focus (simp (disch := omega) only [go_sem, decide_eq_true, decide_eq_false, if_pos, if_neg, wrap_in, maxLen]; done)))
    | (apply ret_e; (focus (simp (disch := omega) only [go_sem, decide_eq_true, decide_eq_false, if_pos, if_neg, wrap_in, maxLen]; with_reducible rfl)); (focus (simp (disch := omega) only [go_sem, decide_eq_true, decide_eq_false, if_pos, if_neg, wrap_in, maxLen]; with_reducible rfl))) | (apply end_e; (focus (simp (disch := omega) only [go_sem, decide_eq_true, decide_eq_false, if_pos, if_neg, wrap_in, maxLen]; with_reducible rfl)); (focus (simp (disch := omega) only [go_sem, decide_eq_true, decide_eq_false, if_pos, if_neg, wrap_in, maxLen]; with_reducible rfl)))
    | rfl)
    congr 1
    have : ¬ i < g.edges.length := by simpa using hc
    rw [List.take_of_length_le (by omega)] at hpre
    exact hpre.symm

/-- The nodes for which a test holds, in order. -/
def sieve (n : Nat) (p : Nat → Bool) : List Int := ((List.range n).filter p).map fun i : Nat => (i : Int)
theorem sieve_succ (n : Nat) (p : Nat → Bool) : sieve (n + 1) p = sieve n p ++ (if p n then [(n : Int)] else []) := by
  unfold sieve
  rw [List.range_succ, List.filter_append, List.map_append]
  congr 1
  by_cases h : p n <;> simp [h]
theorem sieve_len (n : Nat) (p : Nat → Bool) : (sieve n p).length ≤ n := by
  unfold sieve
  rw [List.length_map]
  exact Nat.le_trans (List.length_filter_le _ _) (by simp)
theorem outside_no {n : Nat} {e : Edge} (h : outside n e = false) : 0 ≤ e.fr ∧ e.fr < n ∧ 0 ≤ e.to ∧ e.to < n := by
  simp [outside] at h
  omega
theorem chk_fit {g : Graph} (h : chk g = 0) : Fit g := by
  unfold chk at h
  split at h
  · omega
  split at h
  · omega
  split at h
  · omega
  split at h
  · omega
  · rename_i h1 _ _ h2
    refine ⟨by omega, by omega, fun e he => outside_no ?_⟩
    cases hb : outside g.nodes.length e
    · rfl
    · exact absurd (List.any_eq_true.2 ⟨e, he, hb⟩) h2
end Go.Ab
