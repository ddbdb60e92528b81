/-
  One text of the proof (own work): contracts of functions of the program, by the abstract machine.
-/
import Derived.Test.YtpecnbkfahekdaaA8
set_option linter.unusedVariables false
set_option linter.unusedSimpArgs false
namespace Go.Ab
open Go Go.RowKit Go.Proofs
set_option maxRecDepth 4000
set_option maxHeartbeats 1000000

def InRange (g : Graph) : Prop := ∀ e ∈ g.edges, 0 ≤ e.fr ∧ e.fr < g.nodes.length ∧ 0 ≤ e.to ∧ e.to < g.nodes.length
/-- The distances to a node. -/
noncomputable def distTo (g : Graph) (to without : Int) : List Int := (List.range g.nodes.length).map fun v : Nat => dist g without (v : Int) to
structure Dom38 (g : Graph) (to without : Int) : Prop where
  nodes : g.nodes.length ≤ 1024
  edges : g.edges.length ≤ 1024
  inr : InRange g
  to0 : 0 ≤ to
  ton : to < g.nodes.length
  ne : to ≠ without
noncomputable def g38 : List D → Option D := encSpec (fun x : Graph × Int × Int => [gD x.1, i64 x.2.1, i64 x.2.2]) (fun x => Dom38 x.1 x.2.1 x.2.2) (fun x => ints (distTo x.1 x.2.1 x.2.2))
theorem g38_eq {g : Graph} {to without : Int} (h : Dom38 g to without) : g38 [.agg [.list (g.nodes.map .str), .list (g.edges.map eD)], .int .i64 to, .int .i64 without] = some (.list ((distTo g to without).map i64)) :=
  encSpec_eq (x := (g, to, without)) h fun y hy => by
    obtain ⟨y1, y2, y3⟩ := y
    simp only [List.cons.injEq, and_true] at hy
    have h2 : y2 = to := by simpa using hy.2.1
    have h3 : y3 = without := by simpa using hy.2.2
    rw [gD_inj hy.1, h2, h3]
def fill (n i : Nat) : List Int := List.replicate i (-1) ++ List.replicate (n - i) 0
theorem fill_set {n i : Nat} (h : i < n) : (fill n i).set i (-1) = fill n (i + 1) := by
  unfold fill
  rw [List.set_append_right _ _ (by simp), List.length_replicate, Nat.sub_self, show n - i = (n - (i + 1)) + 1 from by omega, List.replicate_succ, List.set_cons_zero, List.replicate_succ', List.append_assoc]
  rfl
theorem f38_ok : PureOK Try.prog 38 false g38 := by
  have hΓ := Γ1_ok
  refine pure_enc (n := 89) (rs := [.tmp 6]) Try.func38 (by kernel_rfl) rfl (by kernel_rfl) (by kernel_rfl) ?_
  rintro ⟨g, to, without⟩ ⟨hn, he, hin, ht0, htn, hne⟩
  dsimp only at hn he hin ht0 htn hne
  refine ⟨fun h => (by cases h), fun c hz0 => ?_⟩
  simp only [start, go_sem, emptyH, List.replicate_succ, List.replicate_zero]
  repeat (first
    | refine awp_seq ?_ | refine awp_block ?_ | refine awp_ret ?_ | refine awp_skip ?_ | refine awp_exit ?_ | refine awp_label ?_
    | refine then_normal ?_ | refine then_ret ?_ | refine then_exit ?_ | refine block_normal ?_ | refine block_ret ?_ | refine block_exit ?_ | refine block_out rfl ?_
    | (apply awp_reg hΓ; (focus (simp (disch := omega) only [go_sem, decide_eq_true, decide_eq_false, if_pos, if_neg, wrap_in, maxLen]; with_reducible rfl)))
    | (apply awp_regf mixedOK hΓ (by kernel_rfl); (focus (simp (disch := omega) only [go_sem, decide_eq_true, decide_eq_false, if_pos, if_neg, wrap_in, maxLen]; with_reducible rfl)); (focus (simp only [go_sem]; with_reducible rfl)))
    | (apply awp_regt mixedOK hΓ rfl; (focus kernel_rfl); (focus (simp (disch := omega) only [go_sem, decide_eq_true, decide_eq_false, if_pos, if_neg, wrap_in, maxLen]; with_reducible rfl)); (focus (simp only [go_sem]; with_reducible rfl)); (focus (simp (disch := omega) only [go_sem, decide_eq_true, decide_eq_false, if_pos, if_neg, wrap_in, maxLen]; with_reducible rfl)))
    | (apply awp_cond_t; (focus (simp (disch := omega) only [go_sem, decide_eq_true, decide_eq_false, if_pos, if_neg, wrap_in, maxLen]; done))) | (apply awp_cond_f; (focus (simp (disch := omega) only [go_sem, decide_eq_true, decide_eq_false, if_pos, if_neg, wrap_in, maxLen]; done)))
    | (apply ret_e; (focus (simp (disch := omega) only [go_sem, decide_eq_true, decide_eq_false, if_pos, if_neg, wrap_in, maxLen]; with_reducible rfl)); (focus (simp (disch := omega) only [go_sem, decide_eq_true, decide_eq_false, if_pos, if_neg, wrap_in, maxLen]; with_reducible rfl))) | (apply end_e; (focus (simp (disch := omega) only [go_sem, decide_eq_true, decide_eq_false, if_pos, if_neg, wrap_in, maxLen]; with_reducible rfl)); (focus (simp (disch := omega) only [go_sem, decide_eq_true, decide_eq_false, if_pos, if_neg, wrap_in, maxLen]; with_reducible rfl)))
    | rfl)
  refine awp_loop_at (X := Nat) (fun i => (.junk :: .data (i64 to) :: .data (i64 without) :: .ptr 0 0 :: .junk :: .junk :: .junk :: .row 5 g.nodes.length :: .data (i64 i) :: .junk :: .junk :: .junk :: .junk :: .junk :: .junk :: .junk :: .junk :: .junk :: .junk :: .junk :: .junk :: .junk :: .junk :: .junk :: .junk :: .junk :: .junk :: .junk :: .junk :: .junk :: .junk :: .junk :: .junk :: .junk :: .junk :: .junk :: .junk :: .junk :: .junk :: .junk :: .junk :: .junk :: .junk :: .junk :: .junk :: .junk :: .junk :: .junk :: .junk :: .junk :: .junk :: .junk :: .junk :: .junk :: .junk :: .junk :: .junk :: .junk :: .junk :: .junk :: .junk :: .junk :: .junk :: .junk :: .junk :: .junk :: .junk :: .junk :: .junk :: .junk :: .junk :: .junk :: .junk :: .junk :: .junk :: .junk :: .junk :: .junk :: .junk :: .junk :: .junk :: .junk :: .junk :: .junk :: .junk :: .junk :: .junk :: .junk :: .junk :: []))
    (fun i => [(0, .box [.data (.list (g.nodes.map .str)), .data (.list (g.edges.map eD))]), (5, .row 3 1 ((fill g.nodes.length i).map i64))]) 6
    (fun i => i ≤ g.nodes.length) (fun i => g.nodes.length - i) 0 (Nat.zero_le _) (Weak.of (by omega) (by simp [ConvL, Conv, ints, fill]) (by simp [TabSub, look, Obj.refsOK, refsOKs, AV.refsOK, fill]) (by simp [refsOKs, AV.refsOK])) ?_
  intro i hi
  have hfl : (fill g.nodes.length i).length = g.nodes.length := by simp [fill]; omega
  repeat (first
    | refine awp_seq ?_ | refine awp_block ?_ | refine awp_ret ?_ | refine awp_skip ?_ | refine awp_exit ?_ | refine awp_label ?_
    | refine then_normal ?_ | refine then_ret ?_ | refine then_exit ?_ | refine block_normal ?_ | refine block_ret ?_ | refine block_exit ?_ | refine block_out rfl ?_
    | (apply awp_reg hΓ; (focus (simp (disch := omega) only [go_sem, decide_eq_true, decide_eq_false, if_pos, if_neg, wrap_in, maxLen, hfl]; with_reducible rfl)))
    | (apply awp_regf mixedOK hΓ (by kernel_rfl); (focus (simp (disch := omega) only [go_sem, decide_eq_true, decide_eq_false, if_pos, if_neg, wrap_in, maxLen, hfl]; with_reducible rfl)); (focus (simp only [go_sem]; with_reducible rfl)))
    | (apply awp_regt mixedOK hΓ rfl; (focus kernel_rfl); (focus (simp (disch := omega) only [go_sem, decide_eq_true, decide_eq_false, if_pos, if_neg, wrap_in, maxLen, hfl]; with_reducible rfl)); (focus (simp only [go_sem]; with_reducible rfl)); (focus (simp (disch := omega) only [go_sem, decide_eq_true, decide_eq_false, if_pos, if_neg, wrap_in, maxLen, hfl]; with_reducible rfl)))
    | (apply awp_cond_t; (focus (simp (disch := omega) only [go_sem, decide_eq_true, decide_eq_false, if_pos, if_neg, wrap_in, maxLen, hfl]; done))) | (apply awp_cond_f; (focus (simp (disch := omega) only [go_sem, decide_eq_true, decide_eq_false, if_pos, if_neg, wrap_in, maxLen, hfl]; done)))
    | (apply ret_e; (focus (simp (disch := omega) only [go_sem, decide_eq_true, decide_eq_false, if_pos, if_neg, wrap_in, maxLen, hfl]; with_reducible rfl)); (focus (simp (disch := omega) only [go_sem, decide_eq_true, decide_eq_false, if_pos, if_neg, wrap_in, maxLen, hfl]; with_reducible rfl))) | (apply end_e; (focus (simp (disch := omega) only [go_sem, decide_eq_true, decide_eq_false, if_pos, if_neg, wrap_in, maxLen, hfl]; with_reducible rfl)); (focus (simp (disch := omega) only [go_sem, decide_eq_true, decide_eq_false, if_pos, if_neg, wrap_in, maxLen, hfl]; with_reducible rfl)))
    | rfl)
  refine awp_cond (by simp (disch := omega) only [go_sem]; rfl) (fun hc => ?_) (fun hc => ?_)
  · have hi' : i < g.nodes.length := by simpa using hc
    have hset : ((fill g.nodes.length i).map i64).set i (.int .i64 (-1)) = (fill g.nodes.length (i + 1)).map i64 := by rw [← fill_set hi', List.map_set]
    repeat (first
      | refine awp_seq ?_ | refine awp_block ?_ | refine awp_ret ?_ | refine awp_skip ?_ | refine awp_exit ?_ | refine awp_label ?_
      | refine then_normal ?_ | refine then_ret ?_ | refine then_exit ?_ | refine block_normal ?_ | refine block_ret ?_ | refine block_exit ?_ | refine block_out rfl ?_
      | (apply awp_reg hΓ; (focus (simp (disch := omega) only [go_sem, decide_eq_true, decide_eq_false, if_pos, if_neg, wrap_in, maxLen, hfl, hset]; with_reducible rfl)))
      | (apply awp_regf mixedOK hΓ (by kernel_rfl); (focus (simp (disch := omega) only [go_sem, decide_eq_true, decide_eq_false, if_pos, if_neg, wrap_in, maxLen, hfl, hset]; with_reducible rfl)); (focus (simp only [go_sem]; with_reducible rfl)))
      | (apply awp_regt mixedOK hΓ rfl; (focus kernel_rfl); (focus (simp (disch := omega) only [go_sem, decide_eq_true, decide_eq_false, if_pos, if_neg, wrap_in, maxLen, hfl, hset]; with_reducible rfl)); (focus (simp only [go_sem]; with_reducible rfl)); (focus (simp (disch := omega) only [go_sem, decide_eq_true, decide_eq_false, if_pos, if_neg, wrap_in, maxLen, hfl, hset]; with_reducible rfl)))
      | (apply awp_cond_t; (focus (simp (disch := omega) only [go_sem, decide_eq_true, decide_eq_false, if_pos, if_neg, wrap_in, maxLen, hfl, hset]; done))) | (apply awp_cond_f; (focus (simp (disch := omega) only [go_sem, decide_eq_true, decide_eq_false, if_pos, if_neg, wrap_in, maxLen, hfl, hset]; done)))
      | (apply ret_e; (focus (simp (disch := omega) only [go_sem, decide_eq_true, decide_eq_false, if_pos, if_neg, wrap_in, maxLen, hfl, hset]; with_reducible rfl)); (focus (simp (disch := omega) only [go_sem, decide_eq_true, decide_eq_false, if_pos, if_neg, wrap_in, maxLen, hfl, hset]; with_reducible rfl))) | (apply end_e; (focus (simp (disch := omega) only [go_sem, decide_eq_true, decide_eq_false, if_pos, if_neg, wrap_in, maxLen, hfl, hset]; with_reducible rfl)); (focus (simp (disch := omega) only [go_sem, decide_eq_true, decide_eq_false, if_pos, if_neg, wrap_in, maxLen, hfl, hset]; with_reducible rfl)))
      | rfl)
    exact ⟨i + 1, by omega, by omega, Weak.of (by omega) (by simp [ConvL, Conv, ints]) (by simp [TabSub, look, Obj.refsOK, refsOKs, AV.refsOK]) (by simp [refsOKs, AV.refsOK])⟩
  have hfin : fill g.nodes.length i = List.replicate g.nodes.length (-1) := by
    have : ¬ i < g.nodes.length := by simpa using hc
    unfold fill
    rw [show i = g.nodes.length from by omega, Nat.sub_self]
    simp
  rw [hfin]
  clear hc hfin hfl hi
  have hne' : (to != without) = true := by simpa using hne
  have hset0 : ((List.replicate g.nodes.length (-1)).map i64).set to.toNat (.int .i64 0) = ((List.replicate g.nodes.length (-1)).set to.toNat 0).map i64 := by rw [List.map_set]
  have hrl : (List.replicate g.nodes.length (-1 : Int)).length = g.nodes.length := by simp
  repeat (first
    | refine awp_seq ?_ | refine awp_block ?_ | refine awp_ret ?_ | refine awp_skip ?_ | refine awp_exit ?_ | refine awp_label ?_
    | refine then_normal ?_ | refine then_ret ?_ | refine then_exit ?_ | refine block_normal ?_ | refine block_ret ?_ | refine block_exit ?_ | refine block_out rfl ?_
    | (apply awp_reg hΓ; (focus (simp (disch := omega) only [go_sem, decide_eq_true, decide_eq_false, if_pos, if_neg, wrap_in, maxLen, hne', hset0]; with_reducible rfl)))
    | (apply awp_regf mixedOK hΓ (by kernel_rfl); (focus (simp (disch := omega) only [go_sem, decide_eq_true, decide_eq_false, if_pos, if_neg, wrap_in, maxLen, hne', hset0]; with_reducible rfl)); (focus (simp only [go_sem]; with_reducible rfl)))
    | (apply awp_regt mixedOK hΓ rfl; (focus kernel_rfl); (focus (simp (disch := omega) only [go_sem, decide_eq_true, decide_eq_false, if_pos, if_neg, wrap_in, maxLen, hne', hset0]; with_reducible rfl)); (focus (simp only [go_sem]; with_reducible rfl)); (focus (simp (disch := omega) only [go_sem, decide_eq_true, decide_eq_false, if_pos, if_neg, wrap_in, maxLen, hne', hset0]; with_reducible rfl)))
    | (apply awp_cond_t; (focus (simp (disch := omega) only [go_sem, decide_eq_true, decide_eq_false, if_pos, if_neg, wrap_in, maxLen, hne', hset0]; done))) | (apply awp_cond_f; (focus (simp (disch := omega) only [go_sem, decide_eq_true, decide_eq_false, if_pos, if_neg, wrap_in, maxLen, hne', hset0]; done)))
    | (apply ret_e; (focus (simp (disch := omega) only [go_sem, decide_eq_true, decide_eq_false, if_pos, if_neg, wrap_in, maxLen, hne', hset0]; with_reducible rfl)); (focus (simp (disch := omega) only [go_sem, decide_eq_true, decide_eq_false, if_pos, if_neg, wrap_in, maxLen, hne', hset0]; with_reducible rfl))) | (apply end_e; (focus (simp (disch := omega) only [go_sem, decide_eq_true, decide_eq_false, if_pos, if_neg, wrap_in, maxLen, hne', hset0]; with_reducible rfl)); (focus (simp (disch := omega) only [go_sem, decide_eq_true, decide_eq_false, if_pos, if_neg, wrap_in, maxLen, hne', hset0]; with_reducible rfl)))
    | rfl)
  have hstart := Relax.start ht0 htn hne
  generalize (List.replicate g.nodes.length (-1)).set to.toNat 0 = out0 at hstart
  refine awp_loop_at (X := List Int × Bool) (fun x => (.junk :: .junk :: .data (i64 without) :: .ptr 0 0 :: .junk :: .junk :: .junk :: .row 5 g.nodes.length :: .junk :: .data (.bool x.2) :: .junk :: .junk :: .junk :: .junk :: .junk :: .junk :: .junk :: .junk :: .junk :: .junk :: .junk :: .junk :: .junk :: .junk :: .junk :: .junk :: .junk :: .junk :: .junk :: .junk :: .junk :: .junk :: .junk :: .junk :: .junk :: .junk :: .junk :: .junk :: .junk :: .junk :: .junk :: .junk :: .junk :: .junk :: .junk :: .junk :: .junk :: .junk :: .junk :: .junk :: .junk :: .junk :: .junk :: .junk :: .junk :: .junk :: .junk :: .junk :: .junk :: .junk :: .junk :: .junk :: .junk :: .junk :: .junk :: .junk :: .junk :: .junk :: .junk :: .junk :: .junk :: .junk :: .junk :: .junk :: .junk :: .junk :: .junk :: .junk :: .junk :: .junk :: .junk :: .junk :: .junk :: .junk :: .junk :: .junk :: .junk :: .junk :: .junk :: []))
    (fun x => [(0, .box [.data (.list (g.nodes.map .str)), .data (.list (g.edges.map eD))]), (5, .row 3 1 (x.1.map i64))]) 6
    (fun x => Relax g to without x.1 ∧ (x.2 = false → ∀ e ∈ g.edges, Flat g without x.1 e)) (fun x => 2 * weight g.nodes.length x.1 + (if x.2 then 1 else 0)) (out0, true) ⟨hstart, fun h => by cases h⟩ (Weak.of (by omega) (by simp [ConvL, Conv, ints]) (by simp [TabSub, look, Obj.refsOK, refsOKs, AV.refsOK]) (by simp [refsOKs, AV.refsOK])) ?_
  rintro ⟨out, again⟩ ⟨hrel, hfix⟩
  dsimp only at hrel hfix
  repeat (first
    | refine awp_seq ?_ | refine awp_block ?_ | refine awp_ret ?_ | refine awp_skip ?_ | refine awp_exit ?_ | refine awp_label ?_
    | refine then_normal ?_ | refine then_ret ?_ | refine then_exit ?_ | refine block_normal ?_ | refine block_ret ?_ | refine block_exit ?_ | refine block_out rfl ?_
    | (apply awp_reg hΓ; (focus (simp (disch := omega) only [go_sem, decide_eq_true, decide_eq_false, if_pos, if_neg, wrap_in, maxLen]; with_reducible rfl)))
    | (apply awp_regf mixedOK hΓ (by kernel_rfl); (focus (simp (disch := omega) only [go_sem, decide_eq_true, decide_eq_false, if_pos, if_neg, wrap_in, maxLen]; with_reducible rfl)); (focus (simp only [go_sem]; with_reducible rfl)))
    | (apply awp_regt mixedOK hΓ rfl; (focus kernel_rfl); (focus (simp (disch := omega) only [go_sem, decide_eq_true, decide_eq_false, if_pos, if_neg, wrap_in, maxLen]; with_reducible rfl)); (focus (simp only [go_sem]; with_reducible rfl)); (focus (simp (disch := omega) only [go_sem, decide_eq_true, decide_eq_false, if_pos, if_neg, wrap_in, maxLen]; with_reducible rfl)))
    | (apply awp_cond_t; (focus (simp (disch := omega) only [go_sem, decide_eq_true, decide_eq_false, if_pos, if_neg, wrap_in, maxLen]; done))) | (apply awp_cond_f; (focus (simp (disch := omega) only [go_sem, decide_eq_true, decide_eq_false, if_pos, if_neg, wrap_in, maxLen]; done)))
    | (apply ret_e; (focus (simp (disch := omega) only [go_sem, decide_eq_true, decide_eq_false, if_pos, if_neg, wrap_in, maxLen]; with_reducible rfl)); (focus (simp (disch := omega) only [go_sem, decide_eq_true, decide_eq_false, if_pos, if_neg, wrap_in, maxLen]; with_reducible rfl))) | (apply end_e; (focus (simp (disch := omega) only [go_sem, decide_eq_true, decide_eq_false, if_pos, if_neg, wrap_in, maxLen]; with_reducible rfl)); (focus (simp (disch := omega) only [go_sem, decide_eq_true, decide_eq_false, if_pos, if_neg, wrap_in, maxLen]; with_reducible rfl)))
    | rfl)
  cases again with
  | false =>
    have hl := hrel.len
    repeat (first
      | refine awp_seq ?_ | refine awp_block ?_ | refine awp_ret ?_ | refine awp_skip ?_ | refine awp_exit ?_ | refine awp_label ?_
      | refine then_normal ?_ | refine then_ret ?_ | refine then_exit ?_ | refine block_normal ?_ | refine block_ret ?_ | refine block_exit ?_ | refine block_out rfl ?_
      | (apply awp_reg hΓ; (focus (simp (disch := omega) only [go_sem, decide_eq_true, decide_eq_false, if_pos, if_neg, wrap_in, maxLen, hl]; with_reducible rfl)))
      | (apply awp_regf mixedOK hΓ (by kernel_rfl); (focus (simp (disch := omega) only [go_sem, decide_eq_true, decide_eq_false, if_pos, if_neg, wrap_in, maxLen, hl]; with_reducible rfl)); (focus (simp only [go_sem]; with_reducible rfl)))
      | (apply awp_regt mixedOK hΓ rfl; (focus kernel_rfl); (focus (simp (disch := omega) only [go_sem, decide_eq_true, decide_eq_false, if_pos, if_neg, wrap_in, maxLen, hl]; with_reducible rfl)); (focus (simp only [go_sem]; with_reducible rfl)); (focus (simp (disch := omega) only [go_sem, decide_eq_true, decide_eq_false, if_pos, if_neg, wrap_in, maxLen, hl]; with_reducible rfl)))
      | (apply awp_cond_t; (focus (simp (disch := omega) only [go_sem, decide_eq_true, decide_eq_false, if_pos, if_neg, wrap_in, maxLen, hl]; done))) | (apply awp_cond_f; (focus (simp (disch := omega) only [go_sem, decide_eq_true, decide_eq_false, if_pos, if_neg, wrap_in, maxLen, hl]; done)))
      | (apply ret_e; (focus (simp (disch := omega) only [go_sem, decide_eq_true, decide_eq_false, if_pos, if_neg, wrap_in, maxLen, hl]; with_reducible rfl)); (focus (simp (disch := omega) only [go_sem, decide_eq_true, decide_eq_false, if_pos, if_neg, wrap_in, maxLen, hl]; with_reducible rfl))) | (apply end_e; (focus (simp (disch := omega) only [go_sem, decide_eq_true, decide_eq_false, if_pos, if_neg, wrap_in, maxLen, hl]; with_reducible rfl)); (focus (simp (disch := omega) only [go_sem, decide_eq_true, decide_eq_false, if_pos, if_neg, wrap_in, maxLen, hl]; with_reducible rfl)))
      | rfl)
    rw [hrel.dist hin (hfix rfl)]
    rfl
  | true =>
    repeat (first
      | refine awp_seq ?_ | refine awp_block ?_ | refine awp_ret ?_ | refine awp_skip ?_ | refine awp_exit ?_ | refine awp_label ?_
      | refine then_normal ?_ | refine then_ret ?_ | refine then_exit ?_ | refine block_normal ?_ | refine block_ret ?_ | refine block_exit ?_ | refine block_out rfl ?_
      | (apply awp_reg hΓ; (focus (simp (disch := omega) only [go_sem, decide_eq_true, decide_eq_false, if_pos, if_neg, wrap_in, maxLen]; with_reducible rfl)))
      | (apply awp_regf mixedOK hΓ (by kernel_rfl); (focus (simp (disch := omega) only [go_sem, decide_eq_true, decide_eq_false, if_pos, if_neg, wrap_in, maxLen]; with_reducible rfl)); (focus (simp only [go_sem]; with_reducible rfl)))
      | (apply awp_regt mixedOK hΓ rfl; (focus kernel_rfl); (focus (simp (disch := omega) only [go_sem, decide_eq_true, decide_eq_false, if_pos, if_neg, wrap_in, maxLen]; with_reducible rfl)); (focus (simp only [go_sem]; with_reducible rfl)); (focus (simp (disch := omega) only [go_sem, decide_eq_true, decide_eq_false, if_pos, if_neg, wrap_in, maxLen]; with_reducible rfl)))
      | (apply awp_cond_t; (focus (simp (disch := omega) only [go_sem, decide_eq_true, decide_eq_false, if_pos, if_neg, wrap_in, maxLen]; done))) | (apply awp_cond_f; (focus (simp (disch := omega) only [go_sem, decide_eq_true, decide_eq_false, if_pos, if_neg, wrap_in, maxLen]; done)))
      | (apply ret_e; (focus (simp (disch := omega) only [go_sem, decide_eq_true, decide_eq_false, if_pos, if_neg, wrap_in, maxLen]; with_reducible rfl)); (focus (simp (disch := omega) only [go_sem, decide_eq_true, decide_eq_false, if_pos, if_neg, wrap_in, maxLen]; with_reducible rfl))) | (apply end_e; (focus (simp (disch := omega) only [go_sem, decide_eq_true, decide_eq_false, if_pos, if_neg, wrap_in, maxLen]; with_reducible rfl)); (focus (simp (disch := omega) only [go_sem, decide_eq_true, decide_eq_false, if_pos, if_neg, wrap_in, maxLen]; with_reducible rfl)))
      | rfl)
    refine awp_loop_at (X := Nat × List Int × Bool) (fun x => (.junk :: .junk :: .data (i64 without) :: .ptr 0 0 :: .junk :: .junk :: .junk :: .row 5 g.nodes.length :: .junk :: .data (.bool x.2.2) :: .data (i64 x.1) :: .junk :: .junk :: .junk :: .junk :: .junk :: .junk :: .junk :: .junk :: .junk :: .junk :: .junk :: .junk :: .junk :: .junk :: .junk :: .junk :: .junk :: .junk :: .junk :: .junk :: .junk :: .junk :: .junk :: .junk :: .junk :: .junk :: .junk :: .junk :: .junk :: .junk :: .junk :: .junk :: .junk :: .junk :: .junk :: .junk :: .junk :: .junk :: .junk :: .junk :: .junk :: .junk :: .junk :: .junk :: .junk :: .junk :: .junk :: .junk :: .junk :: .junk :: .junk :: .junk :: .junk :: .junk :: .junk :: .junk :: .junk :: .junk :: .junk :: .junk :: .junk :: .junk :: .junk :: .junk :: .junk :: .junk :: .junk :: .junk :: .junk :: .junk :: .junk :: .junk :: .junk :: .junk :: .junk :: .junk :: .junk :: .junk :: []))
      (fun x => [(0, .box [.data (.list (g.nodes.map .str)), .data (.list (g.edges.map eD))]), (5, .row 3 1 (x.2.1.map i64))]) 6
      (fun x => x.1 ≤ g.edges.length ∧ Relax g to without x.2.1 ∧ weight g.nodes.length x.2.1 ≤ weight g.nodes.length out ∧ (x.2.2 = true → weight g.nodes.length x.2.1 < weight g.nodes.length out) ∧
        (x.2.2 = false → ∀ j (h : j < g.edges.length), j < x.1 → Flat g without x.2.1 (g.edges[j]))) (fun x => g.edges.length - x.1) (0, out, false) ⟨Nat.zero_le _, hrel, Nat.le_refl _, (fun h => by cases h), (fun _ j _ h => absurd h (Nat.not_lt_zero _))⟩ (Weak.of (by omega) (by simp [ConvL, Conv, ints]) (by simp [TabSub, look, Obj.refsOK, refsOKs, AV.refsOK]) (by simp [refsOKs, AV.refsOK])) ?_
    rintro ⟨i, cur, ag⟩ ⟨hi, hr, hw, hag, hfl⟩
    dsimp only at hi hr hw hag hfl
    repeat (first
      | refine awp_seq ?_ | refine awp_block ?_ | refine awp_ret ?_ | refine awp_skip ?_ | refine awp_exit ?_ | refine awp_label ?_
      | refine then_normal ?_ | refine then_ret ?_ | refine then_exit ?_ | refine block_normal ?_ | refine block_ret ?_ | refine block_exit ?_ | refine block_out rfl ?_
      | (apply awp_reg hΓ; (focus (simp (disch := omega) only [go_sem, decide_eq_true, decide_eq_false, if_pos, if_neg, wrap_in, maxLen]; with_reducible rfl)))
      | (apply awp_regf mixedOK hΓ (by kernel_rfl); (focus (simp (disch := omega) only [go_sem, decide_eq_true, decide_eq_false, if_pos, if_neg, wrap_in, maxLen]; with_reducible rfl)); (focus (simp only [go_sem]; with_reducible rfl)))
      | (apply awp_regt mixedOK hΓ rfl; (focus kernel_rfl); (focus (simp (disch := omega) only [go_sem, decide_eq_true, decide_eq_false, if_pos, if_neg, wrap_in, maxLen]; with_reducible rfl)); (focus (simp only [go_sem]; with_reducible rfl)); (focus (simp (disch := omega) only [go_sem, decide_eq_true, decide_eq_false, if_pos, if_neg, wrap_in, maxLen]; with_reducible rfl)))
      | (apply awp_cond_t; (focus (simp (disch := omega) only [go_sem, decide_eq_true, decide_eq_false, if_pos, if_neg, wrap_in, maxLen]; done))) | (apply awp_cond_f; (focus (simp (disch := omega) only [go_sem, decide_eq_true, decide_eq_false, if_pos, if_neg, wrap_in, maxLen]; done)))
      | (apply ret_e; (focus (simp (disch := omega) only [go_sem, decide_eq_true, decide_eq_false, if_pos, if_neg, wrap_in, maxLen]; with_reducible rfl)); (focus (simp (disch := omega) only [go_sem, decide_eq_true, decide_eq_false, if_pos, if_neg, wrap_in, maxLen]; with_reducible rfl))) | (apply end_e; (focus (simp (disch := omega) only [go_sem, decide_eq_true, decide_eq_false, if_pos, if_neg, wrap_in, maxLen]; with_reducible rfl)); (focus (simp (disch := omega) only [go_sem, decide_eq_true, decide_eq_false, if_pos, if_neg, wrap_in, maxLen]; with_reducible rfl)))
      | rfl)
    refine awp_cond (by simp (disch := omega) only [go_sem]; rfl) (fun hc => ?_) (fun hc => ?_)
    · have hi' : i < g.edges.length := by simpa using hc
      have hl := hr.len
      obtain ⟨r1, r2, r3, r4⟩ := hin _ (List.getElem_mem hi')
      have hmem := List.getElem_mem hi'
      have hnext : ∀ o a, (∀ j (h : j < g.edges.length), j < i → a = false → Flat g without o (g.edges[j])) → (a = false → Flat g without o (g.edges[i])) → a = false → ∀ j (h : j < g.edges.length), j < i + 1 → Flat g without o (g.edges[j]) := fun o a h1 h2 ha j hj hji => by
        by_cases hji' : j = i
        · subst hji'; exact h2 ha
        · exact h1 j hj (by omega) ha
      generalize hx : g.edges[i] = x at r1 r2 r3 r4 hmem hnext
      have q1 : x.fr.toNat < cur.length := by omega
      have q2 : x.to.toNat < cur.length := by omega
      have b1 := hr.lt q1
      have b2 := hr.lt q2
      by_cases k1 : x.fr = without
      · have k1' : (x.fr == without) = true := by simpa using k1
        repeat (first
          | refine awp_seq ?_ | refine awp_block ?_ | refine awp_ret ?_ | refine awp_skip ?_ | refine awp_exit ?_ | refine awp_label ?_
          | refine then_normal ?_ | refine then_ret ?_ | refine then_exit ?_ | refine block_normal ?_ | refine block_ret ?_ | refine block_exit ?_ | refine block_out rfl ?_
          | (apply awp_reg hΓ; (focus (simp (disch := omega) only [go_sem, decide_eq_true, decide_eq_false, if_pos, if_neg, wrap_in, maxLen, hl, hx, k1']; with_reducible rfl)))
          | (apply awp_regf mixedOK hΓ (by kernel_rfl); (focus (simp (disch := omega) only [go_sem, decide_eq_true, decide_eq_false, if_pos, if_neg, wrap_in, maxLen, hl, hx, k1']; with_reducible rfl)); (focus (simp only [go_sem]; with_reducible rfl)))
          | (apply awp_regt mixedOK hΓ rfl; (focus kernel_rfl); (focus (simp (disch := omega) only [go_sem, decide_eq_true, decide_eq_false, if_pos, if_neg, wrap_in, maxLen, hl, hx, k1']; with_reducible rfl)); (focus (simp only [go_sem]; with_reducible rfl)); (focus (simp (disch := omega) only [go_sem, decide_eq_true, decide_eq_false, if_pos, if_neg, wrap_in, maxLen, hl, hx, k1']; with_reducible rfl)))
          | (apply awp_cond_t; (focus (simp (disch := omega) only [go_sem, decide_eq_true, decide_eq_false, if_pos, if_neg, wrap_in, maxLen, hl, hx, k1']; done))) | (apply awp_cond_f; (focus (simp (disch := omega) only [go_sem, decide_eq_true, decide_eq_false, if_pos, if_neg, wrap_in, maxLen, hl, hx, k1']; done)))
          | (apply ret_e; (focus (simp (disch := omega) only [go_sem, decide_eq_true, decide_eq_false, if_pos, if_neg, wrap_in, maxLen, hl, hx, k1']; with_reducible rfl)); (focus (simp (disch := omega) only [go_sem, decide_eq_true, decide_eq_false, if_pos, if_neg, wrap_in, maxLen, hl, hx, k1']; with_reducible rfl))) | (apply end_e; (focus (simp (disch := omega) only [go_sem, decide_eq_true, decide_eq_false, if_pos, if_neg, wrap_in, maxLen, hl, hx, k1']; with_reducible rfl)); (focus (simp (disch := omega) only [go_sem, decide_eq_true, decide_eq_false, if_pos, if_neg, wrap_in, maxLen, hl, hx, k1']; with_reducible rfl)))
          | rfl)
        refine ⟨(i + 1, cur, ag), ⟨by omega, hr, hw, hag, ?_⟩, by omega, Weak.of (by omega) (by simp [ConvL, Conv, ints]) (by simp [TabSub, look, Obj.refsOK, refsOKs, AV.refsOK]) (by simp [refsOKs, AV.refsOK])⟩
        exact hnext cur ag (fun j h1 h2 h3 => hfl h3 j h1 h2) (fun _ => .inl k1)
      have k1' : (x.fr == without) = false := by simpa using k1
      by_cases k2 : cur[x.to.toNat] < 0
      · repeat (first
        | refine awp_seq ?_ | refine awp_block ?_ | refine awp_ret ?_ | refine awp_skip ?_ | refine awp_exit ?_ | refine awp_label ?_
        | refine then_normal ?_ | refine then_ret ?_ | refine then_exit ?_ | refine block_normal ?_ | refine block_ret ?_ | refine block_exit ?_ | refine block_out rfl ?_
        | (apply awp_reg hΓ; (focus (simp (disch := omega) only [go_sem, decide_eq_true, decide_eq_false, if_pos, if_neg, wrap_in, maxLen, hl, hx, k1']; with_reducible rfl)))
        | (apply awp_regf mixedOK hΓ (by kernel_rfl); (focus (simp (disch := omega) only [go_sem, decide_eq_true, decide_eq_false, if_pos, if_neg, wrap_in, maxLen, hl, hx, k1']; with_reducible rfl)); (focus (simp only [go_sem]; with_reducible rfl)))
        | (apply awp_regt mixedOK hΓ rfl; (focus kernel_rfl); (focus (simp (disch := omega) only [go_sem, decide_eq_true, decide_eq_false, if_pos, if_neg, wrap_in, maxLen, hl, hx, k1']; with_reducible rfl)); (focus (simp only [go_sem]; with_reducible rfl)); (focus (simp (disch := omega) only [go_sem, decide_eq_true, decide_eq_false, if_pos, if_neg, wrap_in, maxLen, hl, hx, k1']; with_reducible rfl)))
        | (apply awp_cond_t; (focus (simp (disch := omega) only [go_sem, decide_eq_true, decide_eq_false, if_pos, if_neg, wrap_in, maxLen, hl, hx, k1']; done))) | (apply awp_cond_f; (focus (simp (disch := omega) only [go_sem, decide_eq_true, decide_eq_false, if_pos, if_neg, wrap_in, maxLen, hl, hx, k1']; done)))
        | (apply ret_e; (focus (simp (disch := omega) only [go_sem, decide_eq_true, decide_eq_false, if_pos, if_neg, wrap_in, maxLen, hl, hx, k1']; with_reducible rfl)); (focus (simp (disch := omega) only [go_sem, decide_eq_true, decide_eq_false, if_pos, if_neg, wrap_in, maxLen, hl, hx, k1']; with_reducible rfl))) | (apply end_e; (focus (simp (disch := omega) only [go_sem, decide_eq_true, decide_eq_false, if_pos, if_neg, wrap_in, maxLen, hl, hx, k1']; with_reducible rfl)); (focus (simp (disch := omega) only [go_sem, decide_eq_true, decide_eq_false, if_pos, if_neg, wrap_in, maxLen, hl, hx, k1']; with_reducible rfl)))
        | rfl)
        refine ⟨(i + 1, cur, ag), ⟨by omega, hr, hw, hag, ?_⟩, by omega, Weak.of (by omega) (by simp [ConvL, Conv, ints]) (by simp [TabSub, look, Obj.refsOK, refsOKs, AV.refsOK]) (by simp [refsOKs, AV.refsOK])⟩
        exact hnext cur ag (fun j h1 h2 h3 => hfl h3 j h1 h2) (fun _ => .inr (.inl fun _ => k2))
      by_cases k3 : 0 ≤ cur[x.fr.toNat]
      · by_cases k4 : cur[x.fr.toNat] ≤ cur[x.to.toNat] + 1
        · repeat (first
          | refine awp_seq ?_ | refine awp_block ?_ | refine awp_ret ?_ | refine awp_skip ?_ | refine awp_exit ?_ | refine awp_label ?_
          | refine then_normal ?_ | refine then_ret ?_ | refine then_exit ?_ | refine block_normal ?_ | refine block_ret ?_ | refine block_exit ?_ | refine block_out rfl ?_
          | (apply awp_reg hΓ; (focus (simp (disch := omega) only [go_sem, decide_eq_true, decide_eq_false, if_pos, if_neg, wrap_in, maxLen, hl, hx, k1']; with_reducible rfl)))
          | (apply awp_regf mixedOK hΓ (by kernel_rfl); (focus (simp (disch := omega) only [go_sem, decide_eq_true, decide_eq_false, if_pos, if_neg, wrap_in, maxLen, hl, hx, k1']; with_reducible rfl)); (focus (simp only [go_sem]; with_reducible rfl)))
          | (apply awp_regt mixedOK hΓ rfl; (focus kernel_rfl); (focus (simp (disch := omega) only [go_sem, decide_eq_true, decide_eq_false, if_pos, if_neg, wrap_in, maxLen, hl, hx, k1']; with_reducible rfl)); (focus (simp only [go_sem]; with_reducible rfl)); (focus (simp (disch := omega) only [go_sem, decide_eq_true, decide_eq_false, if_pos, if_neg, wrap_in, maxLen, hl, hx, k1']; with_reducible rfl)))
          | (apply awp_cond_t; (focus (simp (disch := omega) only [go_sem, decide_eq_true, decide_eq_false, if_pos, if_neg, wrap_in, maxLen, hl, hx, k1']; done))) | (apply awp_cond_f; (focus (simp (disch := omega) only [go_sem, decide_eq_true, decide_eq_false, if_pos, if_neg, wrap_in, maxLen, hl, hx, k1']; done)))
          | (apply ret_e; (focus (simp (disch := omega) only [go_sem, decide_eq_true, decide_eq_false, if_pos, if_neg, wrap_in, maxLen, hl, hx, k1']; with_reducible rfl)); (focus (simp (disch := omega) only [go_sem, decide_eq_true, decide_eq_false, if_pos, if_neg, wrap_in, maxLen, hl, hx, k1']; with_reducible rfl))) | (apply end_e; (focus (simp (disch := omega) only [go_sem, decide_eq_true, decide_eq_false, if_pos, if_neg, wrap_in, maxLen, hl, hx, k1']; with_reducible rfl)); (focus (simp (disch := omega) only [go_sem, decide_eq_true, decide_eq_false, if_pos, if_neg, wrap_in, maxLen, hl, hx, k1']; with_reducible rfl)))
          | rfl)
          refine ⟨(i + 1, cur, ag), ⟨by omega, hr, hw, hag, ?_⟩, by omega, Weak.of (by omega) (by simp [ConvL, Conv, ints]) (by simp [TabSub, look, Obj.refsOK, refsOKs, AV.refsOK]) (by simp [refsOKs, AV.refsOK])⟩
          exact hnext cur ag (fun j h1 h2 h3 => hfl h3 j h1 h2) (fun _ => .inr (.inr fun _ _ => ⟨k3, k4⟩))
        · have hset : (cur.map i64).set x.fr.toNat (.int .i64 (cur[x.to.toNat] + 1)) = (cur.set x.fr.toNat (cur[x.to.toNat] + 1)).map i64 := by rw [List.map_set]
          obtain ⟨hr', hw'⟩ := hr.step hmem r1 q1 r3 q2 k1 (by omega) (.inr (by omega)) ht0 hne
          rw [hl] at hw'
          repeat (first
            | refine awp_seq ?_ | refine awp_block ?_ | refine awp_ret ?_ | refine awp_skip ?_ | refine awp_exit ?_ | refine awp_label ?_
            | refine then_normal ?_ | refine then_ret ?_ | refine then_exit ?_ | refine block_normal ?_ | refine block_ret ?_ | refine block_exit ?_ | refine block_out rfl ?_
            | (apply awp_reg hΓ; (focus (simp (disch := omega) only [go_sem, decide_eq_true, decide_eq_false, if_pos, if_neg, wrap_in, maxLen, hl, hx, k1', hset]; with_reducible rfl)))
            | (apply awp_regf mixedOK hΓ (by kernel_rfl); (focus (simp (disch := omega) only [go_sem, decide_eq_true, decide_eq_false, if_pos, if_neg, wrap_in, maxLen, hl, hx, k1', hset]; with_reducible rfl)); (focus (simp only [go_sem]; with_reducible rfl)))
            | (apply awp_regt mixedOK hΓ rfl; (focus kernel_rfl); (focus (simp (disch := omega) only [go_sem, decide_eq_true, decide_eq_false, if_pos, if_neg, wrap_in, maxLen, hl, hx, k1', hset]; with_reducible rfl)); (focus (simp only [go_sem]; with_reducible rfl)); (focus (simp (disch := omega) only [go_sem, decide_eq_true, decide_eq_false, if_pos, if_neg, wrap_in, maxLen, hl, hx, k1', hset]; with_reducible rfl)))
            | (apply awp_cond_t; (focus (simp (disch := omega) only [go_sem, decide_eq_true, decide_eq_false, if_pos, if_neg, wrap_in, maxLen, hl, hx, k1', hset]; done))) | (apply awp_cond_f; (focus (simp (disch := omega) only [go_sem, decide_eq_true, decide_eq_false, if_pos, if_neg, wrap_in, maxLen, hl, hx, k1', hset]; done)))
            | (apply ret_e; (focus (simp (disch := omega) only [go_sem, decide_eq_true, decide_eq_false, if_pos, if_neg, wrap_in, maxLen, hl, hx, k1', hset]; with_reducible rfl)); (focus (simp (disch := omega) only [go_sem, decide_eq_true, decide_eq_false, if_pos, if_neg, wrap_in, maxLen, hl, hx, k1', hset]; with_reducible rfl))) | (apply end_e; (focus (simp (disch := omega) only [go_sem, decide_eq_true, decide_eq_false, if_pos, if_neg, wrap_in, maxLen, hl, hx, k1', hset]; with_reducible rfl)); (focus (simp (disch := omega) only [go_sem, decide_eq_true, decide_eq_false, if_pos, if_neg, wrap_in, maxLen, hl, hx, k1', hset]; with_reducible rfl)))
            | rfl)
          refine ⟨(i + 1, cur.set x.fr.toNat (cur[x.to.toNat] + 1), true), ⟨by dsimp only; omega, hr', by dsimp only; omega, (fun _ => by dsimp only; omega), (fun h => by cases h)⟩, by omega, Weak.of (by omega) (by simp [ConvL, Conv, ints]) (by simp [TabSub, look, Obj.refsOK, refsOKs, AV.refsOK]) (by simp [refsOKs, AV.refsOK])⟩
      · have hset : (cur.map i64).set x.fr.toNat (.int .i64 (cur[x.to.toNat] + 1)) = (cur.set x.fr.toNat (cur[x.to.toNat] + 1)).map i64 := by rw [List.map_set]
        obtain ⟨hr', hw'⟩ := hr.step hmem r1 q1 r3 q2 k1 (by omega) (.inl (by omega)) ht0 hne
        rw [hl] at hw'
        repeat (first
          | refine awp_seq ?_ | refine awp_block ?_ | refine awp_ret ?_ | refine awp_skip ?_ | refine awp_exit ?_ | refine awp_label ?_
          | refine then_normal ?_ | refine then_ret ?_ | refine then_exit ?_ | refine block_normal ?_ | refine block_ret ?_ | refine block_exit ?_ | refine block_out rfl ?_
          | (apply awp_reg hΓ; (focus (simp (disch := omega) only [go_sem, decide_eq_true, decide_eq_false, if_pos, if_neg, wrap_in, maxLen, hl, hx, k1', hset]; with_reducible rfl)))
          | (apply awp_regf mixedOK hΓ (by kernel_rfl); (focus (simp (disch := omega) only [go_sem, decide_eq_true, decide_eq_false, if_pos, if_neg, wrap_in, maxLen, hl, hx, k1', hset]; with_reducible rfl)); (focus (simp only [go_sem]; with_reducible rfl)))
          | (apply awp_regt mixedOK hΓ rfl; (focus kernel_rfl); (focus (simp (disch := omega) only [go_sem, decide_eq_true, decide_eq_false, if_pos, if_neg, wrap_in, maxLen, hl, hx, k1', hset]; with_reducible rfl)); (focus (simp only [go_sem]; with_reducible rfl)); (focus (simp (disch := omega) only [go_sem, decide_eq_true, decide_eq_false, if_pos, if_neg, wrap_in, maxLen, hl, hx, k1', hset]; with_reducible rfl)))
          | (apply awp_cond_t; (focus (simp (disch := omega) only [go_sem, decide_eq_true, decide_eq_false, if_pos, if_neg, wrap_in, maxLen, hl, hx, k1', hset]; done))) | (apply awp_cond_f; (focus (simp (disch := omega) only [go_sem, decide_eq_true, decide_eq_false, if_pos, if_neg, wrap_in, maxLen, hl, hx, k1', hset]; done)))
          | (apply ret_e; (focus (simp (disch := omega) only [go_sem, decide_eq_true, decide_eq_false, if_pos, if_neg, wrap_in, maxLen, hl, hx, k1', hset]; with_reducible rfl)); (focus (simp (disch := omega) only [go_sem, decide_eq_true, decide_eq_false, if_pos, if_neg, wrap_in, maxLen, hl, hx, k1', hset]; with_reducible rfl))) | (apply end_e; (focus (simp (disch := omega) only [go_sem, decide_eq_true, decide_eq_false, if_pos, if_neg, wrap_in, maxLen, hl, hx, k1', hset]; with_reducible rfl)); (focus (simp (disch := omega) only [go_sem, decide_eq_true, decide_eq_false, if_pos, if_neg, wrap_in, maxLen, hl, hx, k1', hset]; with_reducible rfl)))
          | rfl)
        refine ⟨(i + 1, cur.set x.fr.toNat (cur[x.to.toNat] + 1), true), ⟨by dsimp only; omega, hr', by dsimp only; omega, (fun _ => by dsimp only; omega), (fun h => by cases h)⟩, by omega, Weak.of (by omega) (by simp [ConvL, Conv, ints]) (by simp [TabSub, look, Obj.refsOK, refsOKs, AV.refsOK]) (by simp [refsOKs, AV.refsOK])⟩
    · repeat (first
      | refine awp_seq ?_ | refine awp_block ?_ | refine awp_ret ?_ | refine awp_skip ?_ | refine awp_exit ?_ | refine awp_label ?_
      | refine then_normal ?_ | refine then_ret ?_ | refine then_exit ?_ | refine block_normal ?_ | refine block_ret ?_ | refine block_exit ?_ | refine block_out rfl ?_
      | (apply awp_reg hΓ; (focus (simp (disch := omega) only [go_sem, decide_eq_true, decide_eq_false, if_pos, if_neg, wrap_in, maxLen]; with_reducible rfl)))
      | (apply awp_regf mixedOK hΓ (by kernel_rfl); (focus (simp (disch := omega) only [go_sem, decide_eq_true, decide_eq_false, if_pos, if_neg, wrap_in, maxLen]; with_reducible rfl)); (focus (simp only [go_sem]; with_reducible rfl)))
      | (apply awp_regt mixedOK hΓ rfl; (focus kernel_rfl); (focus (simp (disch := omega) only [go_sem, decide_eq_true, decide_eq_false, if_pos, if_neg, wrap_in, maxLen]; with_reducible rfl)); (focus (simp only [go_sem]; with_reducible rfl)); (focus (simp (disch := omega) only [go_sem, decide_eq_true, decide_eq_false, if_pos, if_neg, wrap_in, maxLen]; with_reducible rfl)))
      | (apply awp_cond_t; (focus (simp (disch := omega) only [go_sem, decide_eq_true, decide_eq_false, if_pos, if_neg, wrap_in, maxLen]; done))) | (apply awp_cond_f; (focus (simp (disch := omega) only [go_sem, decide_eq_true, decide_eq_false, if_pos, if_neg, wrap_in, maxLen]; done)))
      | (apply ret_e; (focus (simp (disch := omega) only [go_sem, decide_eq_true, decide_eq_false, if_pos, if_neg, wrap_in, maxLen]; with_reducible rfl)); (focus (simp (disch := omega) only [go_sem, decide_eq_true, decide_eq_false, if_pos, if_neg, wrap_in, maxLen]; with_reducible rfl))) | (apply end_e; (focus (simp (disch := omega) only [go_sem, decide_eq_true, decide_eq_false, if_pos, if_neg, wrap_in, maxLen]; with_reducible rfl)); (focus (simp (disch := omega) only [go_sem, decide_eq_true, decide_eq_false, if_pos, if_neg, wrap_in, maxLen]; with_reducible rfl)))
      | rfl)
      refine ⟨(cur, ag), ⟨hr, fun h e he => ?_⟩, ?_, Weak.of (by omega) (by simp [ConvL, Conv, ints]) (by simp [TabSub, look, Obj.refsOK, refsOKs, AV.refsOK]) (by simp [refsOKs, AV.refsOK])⟩
      · obtain ⟨j, hj, rfl⟩ := List.mem_iff_getElem.1 he
        have : ¬ i < g.edges.length := by simpa using hc
        exact hfl h j hj (by omega)
      · cases ag with
        | true => have := hag rfl; simp; omega
        | false => simp; omega
end Go.Ab
