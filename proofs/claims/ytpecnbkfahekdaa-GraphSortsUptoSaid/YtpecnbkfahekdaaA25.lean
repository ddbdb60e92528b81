/-
  One text of the proof (own work): contracts of functions of the program, by the abstract machine.
-/
import Derived.Test.YtpecnbkfahekdaaA23
import Derived.Test.YtpecnbkfahekdaaA24
set_option linter.unusedVariables false
set_option linter.unusedSimpArgs false
namespace Go.Ab
open Go Go.RowKit Go.Proofs
set_option maxRecDepth 4000
set_option maxHeartbeats 4000000

theorem orderR_eq (g : Graph) : orderR g = if chk g = 0 then match ordL g with
    | some l => .tup [ints l, i64 0]
    | none => .tup [.list [], i64 12]
  else .tup [.list [], i64 1] := rfl
noncomputable def g13 : List D → Option D := encSpec (fun g : Graph => [gD g]) (fun g => Sized g) depR
theorem g13_eq {g : Graph} (h : Sized g) : g13 [.agg [.list (g.nodes.map .str), .list (g.edges.map eD)]] = some (depR g) :=
  encSpec_eq (x := g) h fun y hy => by
    simp only [List.cons.injEq, and_true] at hy
    rw [gD_inj hy]
noncomputable def Γ13 : FuncId → Option CSpec := fun f => if f = 11 then some (.pure false g12) else if f = 29 then some (.pure false g29) else if f = 12 then some (.pure false g12) else none
theorem Γ13_ok : ∀ f s, Γ13 f = some s → SpecOK Try.prog f s := by
  intro f s h
  unfold Γ13 at h
  split at h
  · rename_i hf; cases h; subst hf; exact f11_ok
  split at h
  · rename_i hf; cases h; subst hf; exact f29_ok
  split at h
  · rename_i hf; cases h; subst hf; exact f12_ok
  · cases h
theorem take_split {l : List Int} {i : Nat} (h : i < l.length) : l = l.take i ++ l[i] :: l.drop (i + 1) := by
  rw [← List.drop_eq_getElem_cons h, List.take_append_drop]
theorem f13_ok : PureOK Try.prog 13 false g13 := by
  have hΓ := Γ13_ok
  refine pure_enc (n := 57) (rs := [.tmp 2, .tmp 3]) Try.func13 (by kernel_rfl) rfl (by kernel_rfl) (by kernel_rfl) ?_
  rintro g hs
  have e12 := g12_eq hs
  rw [orderR_eq] at e12
  refine ⟨fun h => (by cases h), fun c hz0 => ?_⟩
  have n12 : ((12 : Int) != 0) = true := rfl
  have n1 : ((1 : Int) != 0) = true := rfl
  simp only [start, go_sem, emptyH, List.replicate_succ, List.replicate_zero]
  by_cases hc0 : chk g = 0
  · have hfit := chk_fit hc0
    have hn := hfit.nodes
    have he := hfit.edges
    rw [if_pos hc0] at e12
    cases hol : ordL g with
    | none =>
      rw [hol] at e12
      repeat (first
        | refine awp_seq ?_ | refine awp_block ?_ | refine awp_ret ?_ | refine awp_skip ?_ | refine awp_exit ?_ | refine awp_label ?_
        | refine then_normal ?_ | refine then_ret ?_ | refine then_exit ?_ | refine block_normal ?_ | refine block_ret ?_ | refine block_exit ?_ | refine block_out rfl ?_
        | (apply awp_reg hΓ; (focus (simp (disch := omega) only [go_sem, decide_eq_true, decide_eq_false, if_pos, if_neg, wrap_in, maxLen, Γ13, e12, n12]; with_reducible rfl)))
        | (apply awp_regf mixedOK hΓ (by kernel_rfl); (focus (simp (disch := omega) only [go_sem, decide_eq_true, decide_eq_false, if_pos, if_neg, wrap_in, maxLen, Γ13, e12, n12]; with_reducible rfl)); (focus (simp only [go_sem]; with_reducible rfl)))
        | (apply awp_regt mixedOK hΓ rfl; (focus kernel_rfl); (focus (simp (disch := omega) only [go_sem, decide_eq_true, decide_eq_false, if_pos, if_neg, wrap_in, maxLen, Γ13, e12, n12]; with_reducible rfl)); (focus (simp only [go_sem]; with_reducible rfl)); (focus (simp (disch := omega) only [go_sem, decide_eq_true, decide_eq_false, if_pos, if_neg, wrap_in, maxLen, Γ13, e12, n12]; with_reducible rfl)))
        | (apply awp_cond_t; (focus (simp (disch := omega) only [go_sem, decide_eq_true, decide_eq_false, if_pos, if_neg, wrap_in, maxLen, Γ13, e12, n12]; done))) | (apply awp_cond_f; (focus (simp (disch := omega) only [go_sem, decide_eq_true, decide_eq_false, if_pos, if_neg, wrap_in, maxLen, Γ13, e12, n12]; done)))
        | (apply ret_e; (focus (simp (disch := omega) only [go_sem, decide_eq_true, decide_eq_false, if_pos, if_neg, wrap_in, maxLen, Γ13, e12, n12]; with_reducible rfl)); (focus (simp (disch := omega) only [go_sem, decide_eq_true, decide_eq_false, if_pos, if_neg, wrap_in, maxLen, Γ13, e12, n12]; with_reducible rfl))) | (apply end_e; (focus (simp (disch := omega) only [go_sem, decide_eq_true, decide_eq_false, if_pos, if_neg, wrap_in, maxLen, Γ13, e12, n12]; with_reducible rfl)); (focus (simp (disch := omega) only [go_sem, decide_eq_true, decide_eq_false, if_pos, if_neg, wrap_in, maxLen, Γ13, e12, n12]; with_reducible rfl)))
        | rfl)
      simp [depR, hc0, hol]
    | some l =>
      rw [hol] at e12
      obtain ⟨hto, hll⟩ := ordL_topo hfit.inr hol
      have e29 := g29_eq (back := false) hfit
      have hdep := fun o => dep_eq (o := o) hfit.inr hol
      have hout : depR g = .tup [ints (dep g), i64 0] := by simp only [depR, hc0, if_true, hol]
      rw [hout]
      repeat (first
        | refine awp_seq ?_ | refine awp_block ?_ | refine awp_ret ?_ | refine awp_skip ?_ | refine awp_exit ?_ | refine awp_label ?_
        | refine then_normal ?_ | refine then_ret ?_ | refine then_exit ?_ | refine block_normal ?_ | refine block_ret ?_ | refine block_exit ?_ | refine block_out rfl ?_
        | (apply awp_reg hΓ; (focus (simp (disch := omega) only [go_sem, decide_eq_true, decide_eq_false, if_pos, if_neg, wrap_in, maxLen, Γ13, e12, e29, bne_self_eq_false, ints]; with_reducible rfl)))
        | (apply awp_regf mixedOK hΓ (by kernel_rfl); (focus (simp (disch := omega) only [go_sem, decide_eq_true, decide_eq_false, if_pos, if_neg, wrap_in, maxLen, Γ13, e12, e29, bne_self_eq_false, ints]; with_reducible rfl)); (focus (simp only [go_sem]; with_reducible rfl)))
        | (apply awp_regt mixedOK hΓ rfl; (focus kernel_rfl); (focus (simp (disch := omega) only [go_sem, decide_eq_true, decide_eq_false, if_pos, if_neg, wrap_in, maxLen, Γ13, e12, e29, bne_self_eq_false, ints]; with_reducible rfl)); (focus (simp only [go_sem]; with_reducible rfl)); (focus (simp (disch := omega) only [go_sem, decide_eq_true, decide_eq_false, if_pos, if_neg, wrap_in, maxLen, Γ13, e12, e29, bne_self_eq_false, ints]; with_reducible rfl)))
        | (apply awp_cond_t; (focus (simp (disch := omega) only [go_sem, decide_eq_true, decide_eq_false, if_pos, if_neg, wrap_in, maxLen, Γ13, e12, e29, bne_self_eq_false, ints]; done))) | (apply awp_cond_f; (focus (simp (disch := omega) only [go_sem, decide_eq_true, decide_eq_false, if_pos, if_neg, wrap_in, maxLen, Γ13, e12, e29, bne_self_eq_false, ints]; done)))
        | (apply ret_e; (focus (simp (disch := omega) only [go_sem, decide_eq_true, decide_eq_false, if_pos, if_neg, wrap_in, maxLen, Γ13, e12, e29, bne_self_eq_false, ints]; with_reducible rfl)); (focus (simp (disch := omega) only [go_sem, decide_eq_true, decide_eq_false, if_pos, if_neg, wrap_in, maxLen, Γ13, e12, e29, bne_self_eq_false, ints]; with_reducible rfl))) | (apply end_e; (focus (simp (disch := omega) only [go_sem, decide_eq_true, decide_eq_false, if_pos, if_neg, wrap_in, maxLen, Γ13, e12, e29, bne_self_eq_false, ints]; with_reducible rfl)); (focus (simp (disch := omega) only [go_sem, decide_eq_true, decide_eq_false, if_pos, if_neg, wrap_in, maxLen, Γ13, e12, e29, bne_self_eq_false, ints]; with_reducible rfl)))
        | rfl)
      have hfw0 : Fwd g [] (List.replicate g.nodes.length 0) := by
        have hz : ∀ w : Int, 0 ≤ w → w < g.nodes.length → ov (List.replicate g.nodes.length 0) w = 0 := fun w h0 h1 => by
          unfold ov
          rw [List.getD_eq_getElem?_getD, List.getElem?_replicate, if_pos (by omega)]
          rfl
        exact ⟨by simp, fun w h0 h1 => ⟨by rw [hz w h0 h1]; omega, fun e _ h => by simp at h, .inl (hz w h0 h1)⟩, fun w h0 h1 => by rw [hz w h0 h1]; simp⟩
      refine awp_loop_at (X := Nat × List Int) (fun x => (.junk :: .junk :: .junk :: .junk :: .junk :: .junk :: .row 15 g.nodes.length :: .data (.list ((nbs g false).map ints)) :: .junk :: .junk :: .junk :: .junk :: .junk :: .junk :: .junk :: .junk :: .junk :: .junk :: .junk :: .junk :: .junk :: .junk :: .junk :: .junk :: .junk :: .junk :: .data (ints l) :: .data (i64 l.length) :: .data (i64 x.1) :: .junk :: .junk :: .junk :: .junk :: .junk :: .junk :: .junk :: .junk :: .junk :: .junk :: .junk :: .junk :: .junk :: .junk :: .junk :: .junk :: .junk :: .junk :: .junk :: .junk :: .junk :: .junk :: .junk :: .junk :: .junk :: .junk :: .junk :: .junk :: []))
        (fun x => [(15, .row 3 1 (x.2.map i64))]) 16
        (fun x => x.1 ≤ l.length ∧ Fwd g (l.take x.1) x.2) (fun x => l.length - x.1)
        (0, List.replicate g.nodes.length 0) ⟨Nat.zero_le _, hfw0⟩ (Weak.of (by omega) (by simp [ConvL, Conv, ints, List.map_replicate]) (by simp (disch := omega) only [TabSub, look, if_pos, if_neg, Obj.refsOK, refsOKs, AV.refsOK, decide_eq_true_eq, Bool.and_true, Bool.and_self, List.map_replicate]; (repeat' apply And.intro) <;> first | trivial | omega | rfl | (simp; done)) (by simp (disch := omega) only [refsOKs, AV.refsOK, Bool.and_true, Bool.and_self, decide_eq_true_eq, Bool.true_and, Bool.and_eq_true]; try omega)) ?_
      rintro ⟨i, o⟩ ⟨hi, hfw⟩
      dsimp only at hi hfw
      have hol2 := hfw.len
      repeat (first
        | refine awp_seq ?_ | refine awp_block ?_ | refine awp_ret ?_ | refine awp_skip ?_ | refine awp_exit ?_ | refine awp_label ?_
        | refine then_normal ?_ | refine then_ret ?_ | refine then_exit ?_ | refine block_normal ?_ | refine block_ret ?_ | refine block_exit ?_ | refine block_out rfl ?_
        | (apply awp_reg hΓ; (focus (simp (disch := omega) only [go_sem, decide_eq_true, decide_eq_false, if_pos, if_neg, wrap_in, maxLen, ints]; with_reducible rfl)))
        | (apply awp_regf mixedOK hΓ (by kernel_rfl); (focus (simp (disch := omega) only [go_sem, decide_eq_true, decide_eq_false, if_pos, if_neg, wrap_in, maxLen, ints]; with_reducible rfl)); (focus (simp only [go_sem]; with_reducible rfl)))
        | (apply awp_regt mixedOK hΓ rfl; (focus kernel_rfl); (focus (simp (disch := omega) only [go_sem, decide_eq_true, decide_eq_false, if_pos, if_neg, wrap_in, maxLen, ints]; with_reducible rfl)); (focus (simp only [go_sem]; with_reducible rfl)); (focus (simp (disch := omega) only [go_sem, decide_eq_true, decide_eq_false, if_pos, if_neg, wrap_in, maxLen, ints]; with_reducible rfl)))
        | (apply awp_cond_t; (focus (simp (disch := omega) only [go_sem, decide_eq_true, decide_eq_false, if_pos, if_neg, wrap_in, maxLen, ints]; done))) | (apply awp_cond_f; (focus (simp (disch := omega) only [go_sem, decide_eq_true, decide_eq_false, if_pos, if_neg, wrap_in, maxLen, ints]; done)))
        | (apply ret_e; (focus (simp (disch := omega) only [go_sem, decide_eq_true, decide_eq_false, if_pos, if_neg, wrap_in, maxLen, ints]; with_reducible rfl)); (focus (simp (disch := omega) only [go_sem, decide_eq_true, decide_eq_false, if_pos, if_neg, wrap_in, maxLen, ints]; with_reducible rfl))) | (apply end_e; (focus (simp (disch := omega) only [go_sem, decide_eq_true, decide_eq_false, if_pos, if_neg, wrap_in, maxLen, ints]; with_reducible rfl)); (focus (simp (disch := omega) only [go_sem, decide_eq_true, decide_eq_false, if_pos, if_neg, wrap_in, maxLen, ints]; with_reducible rfl)))
        | rfl)
      refine awp_cond (by simp (disch := omega) only [go_sem]; rfl) (fun hc => ?_) (fun hc => ?_)
      · have hi' : i < l.length := by simpa using hc
        have hsp := take_split hi'
        obtain ⟨v0, v1⟩ := hto.inr _ (List.getElem_mem hi')
        have hin := hfw.enter v0 v1
        have hnd := hto.nodup
        rw [hsp, List.nodup_append] at hnd
        have hvp : l[i] ∉ l.take i := fun hm => hnd.2.2 _ hm _ List.mem_cons_self rfl
        have htk : l.take (i + 1) = l.take i ++ [l[i]] := by rw [List.take_add_one, List.getElem?_eq_getElem hi']; rfl
        have hpl : (l.take i).length ≤ i := List.length_take_le _ _
        have hrow : ((nbs g false).map ints)[(l[i]).toNat]? = some (ints ((nbs g false).getD (l[i]).toNat [])) := by
          rw [List.getElem?_map, List.getElem?_eq_getElem (by rw [nbs_len]; omega), List.getD_eq_getElem?_getD, List.getElem?_eq_getElem (by rw [nbs_len]; omega)]
          rfl
        have hrmem : (nbs g false).getD (l[i]).toNat [] ∈ nbs g false := by
          rw [List.getD_eq_getElem?_getD, List.getElem?_eq_getElem (by rw [nbs_len]; omega)]
          exact List.getElem_mem _
        have hrl := (nbs_ok hfit false).rows _ hrmem
        have hrin := (nbs_ok hfit false).inr _ hrmem
        have hrow2 : ∀ b, b ∈ (nbs g false).getD (l[i]).toNat [] ↔ ∃ e ∈ g.edges, e.fr = l[i] ∧ e.to = b := fun b => by
          rw [nbs_mem hfit.inr false v0]
          simp only [ends, Bool.false_eq_true, if_false, Prod.mk.injEq]
        rw [nbs_len] at hrin
        have hnl := nbs_len g false
        have hbad : ∀ b, b ∈ (nbs g false).getD (l[i]).toNat [] → b ∉ l.take i ∧ b ≠ l[i] := fun b hb => by
          obtain ⟨e, he1, he2, he3⟩ := (hrow2 b).1 hb
          refine ⟨fun hm => ?_, fun hm => ?_⟩
          · obtain ⟨j, hj, hjb⟩ := List.mem_iff_getElem.1 hm
            have hj2 : j < i := by simp at hj; omega
            rw [List.getElem_take] at hjb
            have h1 := hto.pre _ _ _ (take_split (l := l) (i := j) (by omega)) e he1 (by rw [he3, hjb])
            rw [he2] at h1
            exact hvp ((List.take_sublist_take_left (by omega : j ≤ i)).subset h1)
          · have h1 := hto.pre _ _ _ hsp e he1 (by rw [he3, hm])
            rw [he2] at h1
            exact hvp h1
        generalize hrr : (nbs g false).getD (l[i]).toNat [] = row at hrow hrl hrin hrow2 hbad
        generalize hv : l[i] = v at *
        repeat (first
          | refine awp_seq ?_ | refine awp_block ?_ | refine awp_ret ?_ | refine awp_skip ?_ | refine awp_exit ?_ | refine awp_label ?_
          | refine then_normal ?_ | refine then_ret ?_ | refine then_exit ?_ | refine block_normal ?_ | refine block_ret ?_ | refine block_exit ?_ | refine block_out rfl ?_
          | (apply awp_reg hΓ; (focus (simp (disch := omega) only [go_sem, decide_eq_true, decide_eq_false, if_pos, if_neg, wrap_in, maxLen, hv, hrow, hnl, ints]; with_reducible rfl)))
          | (apply awp_regf mixedOK hΓ (by kernel_rfl); (focus (simp (disch := omega) only [go_sem, decide_eq_true, decide_eq_false, if_pos, if_neg, wrap_in, maxLen, hv, hrow, hnl, ints]; with_reducible rfl)); (focus (simp only [go_sem]; with_reducible rfl)))
          | (apply awp_regt mixedOK hΓ rfl; (focus kernel_rfl); (focus (simp (disch := omega) only [go_sem, decide_eq_true, decide_eq_false, if_pos, if_neg, wrap_in, maxLen, hv, hrow, hnl, ints]; with_reducible rfl)); (focus (simp only [go_sem]; with_reducible rfl)); (focus (simp (disch := omega) only [go_sem, decide_eq_true, decide_eq_false, if_pos, if_neg, wrap_in, maxLen, hv, hrow, hnl, ints]; with_reducible rfl)))
          | (apply awp_cond_t; (focus (simp (disch := omega) only [go_sem, decide_eq_true, decide_eq_false, if_pos, if_neg, wrap_in, maxLen, hv, hrow, hnl, ints]; done))) | (apply awp_cond_f; (focus (simp (disch := omega) only [go_sem, decide_eq_true, decide_eq_false, if_pos, if_neg, wrap_in, maxLen, hv, hrow, hnl, ints]; done)))
          | (apply ret_e; (focus (simp (disch := omega) only [go_sem, decide_eq_true, decide_eq_false, if_pos, if_neg, wrap_in, maxLen, hv, hrow, hnl, ints]; with_reducible rfl)); (focus (simp (disch := omega) only [go_sem, decide_eq_true, decide_eq_false, if_pos, if_neg, wrap_in, maxLen, hv, hrow, hnl, ints]; with_reducible rfl))) | (apply end_e; (focus (simp (disch := omega) only [go_sem, decide_eq_true, decide_eq_false, if_pos, if_neg, wrap_in, maxLen, hv, hrow, hnl, ints]; with_reducible rfl)); (focus (simp (disch := omega) only [go_sem, decide_eq_true, decide_eq_false, if_pos, if_neg, wrap_in, maxLen, hv, hrow, hnl, ints]; with_reducible rfl)))
          | rfl)
        refine awp_loop_at (X := Nat × List Int) (fun x => (.junk :: .junk :: .junk :: .junk :: .junk :: .junk :: .row 15 g.nodes.length :: .data (.list ((nbs g false).map ints)) :: .junk :: .data (i64 v) :: .junk :: .junk :: .junk :: .junk :: .junk :: .junk :: .junk :: .junk :: .junk :: .junk :: .junk :: .junk :: .junk :: .junk :: .junk :: .junk :: .data (ints l) :: .data (i64 l.length) :: .data (i64 i) :: .junk :: .junk :: .junk :: .junk :: .junk :: .junk :: .data (ints row) :: .data (i64 row.length) :: .data (i64 x.1) :: .junk :: .junk :: .junk :: .junk :: .junk :: .junk :: .junk :: .junk :: .junk :: .junk :: .junk :: .junk :: .junk :: .junk :: .junk :: .junk :: .junk :: .junk :: .junk :: []))
          (fun x => [(15, .row 3 1 (x.2.map i64))]) 16
          (fun x => x.1 ≤ row.length ∧ FwdIn g (l.take i) v (row.take x.1) x.2) (fun x => row.length - x.1)
          (0, o) ⟨Nat.zero_le _, hin⟩ (Weak.of (by omega) (by simp [ConvL, Conv, ints]) (by simp (disch := omega) only [TabSub, look, if_pos, if_neg, Obj.refsOK, refsOKs, AV.refsOK, decide_eq_true_eq, Bool.and_true, Bool.and_self]; (repeat' apply And.intro) <;> first | trivial | omega | rfl | (simp; done)) (by simp (disch := omega) only [refsOKs, AV.refsOK, Bool.and_true, Bool.and_self, decide_eq_true_eq, Bool.true_and, Bool.and_eq_true]; try omega)) ?_
        rintro ⟨k, o2⟩ ⟨hk, hf2⟩
        dsimp only at hk hf2
        have hol3 := hf2.len
        repeat (first
          | refine awp_seq ?_ | refine awp_block ?_ | refine awp_ret ?_ | refine awp_skip ?_ | refine awp_exit ?_ | refine awp_label ?_
          | refine then_normal ?_ | refine then_ret ?_ | refine then_exit ?_ | refine block_normal ?_ | refine block_ret ?_ | refine block_exit ?_ | refine block_out rfl ?_
          | (apply awp_reg hΓ; (focus (simp (disch := omega) only [go_sem, decide_eq_true, decide_eq_false, if_pos, if_neg, wrap_in, maxLen, ints]; with_reducible rfl)))
          | (apply awp_regf mixedOK hΓ (by kernel_rfl); (focus (simp (disch := omega) only [go_sem, decide_eq_true, decide_eq_false, if_pos, if_neg, wrap_in, maxLen, ints]; with_reducible rfl)); (focus (simp only [go_sem]; with_reducible rfl)))
          | (apply awp_regt mixedOK hΓ rfl; (focus kernel_rfl); (focus (simp (disch := omega) only [go_sem, decide_eq_true, decide_eq_false, if_pos, if_neg, wrap_in, maxLen, ints]; with_reducible rfl)); (focus (simp only [go_sem]; with_reducible rfl)); (focus (simp (disch := omega) only [go_sem, decide_eq_true, decide_eq_false, if_pos, if_neg, wrap_in, maxLen, ints]; with_reducible rfl)))
          | (apply awp_cond_t; (focus (simp (disch := omega) only [go_sem, decide_eq_true, decide_eq_false, if_pos, if_neg, wrap_in, maxLen, ints]; done))) | (apply awp_cond_f; (focus (simp (disch := omega) only [go_sem, decide_eq_true, decide_eq_false, if_pos, if_neg, wrap_in, maxLen, ints]; done)))
          | (apply ret_e; (focus (simp (disch := omega) only [go_sem, decide_eq_true, decide_eq_false, if_pos, if_neg, wrap_in, maxLen, ints]; with_reducible rfl)); (focus (simp (disch := omega) only [go_sem, decide_eq_true, decide_eq_false, if_pos, if_neg, wrap_in, maxLen, ints]; with_reducible rfl))) | (apply end_e; (focus (simp (disch := omega) only [go_sem, decide_eq_true, decide_eq_false, if_pos, if_neg, wrap_in, maxLen, ints]; with_reducible rfl)); (focus (simp (disch := omega) only [go_sem, decide_eq_true, decide_eq_false, if_pos, if_neg, wrap_in, maxLen, ints]; with_reducible rfl)))
          | rfl)
        refine awp_cond (by simp (disch := omega) only [go_sem]; rfl) (fun hc => ?_) (fun hc => ?_)
        · have hk' : k < row.length := by simpa using hc
          have hbm := List.getElem_mem hk'
          obtain ⟨b0, b1⟩ := hrin _ hbm
          obtain ⟨g1, g2⟩ := hbad _ hbm
          have hst := hf2.step hfit.inr g1 g2 b0 b1 ((hrow2 _).1 hbm)
          have htk2 : row.take (k + 1) = row.take k ++ [row[k]] := by rw [List.take_add_one, List.getElem?_eq_getElem hk']; rfl
          rw [← htk2] at hst
          generalize hb : row[k] = b at b0 b1 hst
          have hg1 := ov_get (out := o2) (v := b) (by omega)
          have hg2 := ov_get (out := o2) (v := v) (by omega)
          have hb1' := hf2.bd b b0 b1
          have hb2' := hf2.own
          obtain ⟨hp1, _⟩ := hf2.val b b0 b1
          obtain ⟨hp2, _⟩ := hf2.val v v0 v1
          have hset : (o2.map i64).set b.toNat (.int .i64 (max (ov o2 b) (ov o2 v + 1))) = (o2.set b.toNat (max (ov o2 b) (ov o2 v + 1))).map i64 := by rw [List.map_set]
          repeat (first
            | refine awp_seq ?_ | refine awp_block ?_ | refine awp_ret ?_ | refine awp_skip ?_ | refine awp_exit ?_ | refine awp_label ?_
            | refine then_normal ?_ | refine then_ret ?_ | refine then_exit ?_ | refine block_normal ?_ | refine block_ret ?_ | refine block_exit ?_ | refine block_out rfl ?_
            | (apply awp_reg hΓ; (focus (simp (disch := omega) only [go_sem, decide_eq_true, decide_eq_false, if_pos, if_neg, wrap_in, maxLen, hb, hg1, hg2, hset]; with_reducible rfl)))
            | (apply awp_regf mixedOK hΓ (by kernel_rfl); (focus (simp (disch := omega) only [go_sem, decide_eq_true, decide_eq_false, if_pos, if_neg, wrap_in, maxLen, hb, hg1, hg2, hset]; with_reducible rfl)); (focus (simp only [go_sem]; with_reducible rfl)))
            | (apply awp_regt mixedOK hΓ rfl; (focus kernel_rfl); (focus (simp (disch := omega) only [go_sem, decide_eq_true, decide_eq_false, if_pos, if_neg, wrap_in, maxLen, hb, hg1, hg2, hset]; with_reducible rfl)); (focus (simp only [go_sem]; with_reducible rfl)); (focus (simp (disch := omega) only [go_sem, decide_eq_true, decide_eq_false, if_pos, if_neg, wrap_in, maxLen, hb, hg1, hg2, hset]; with_reducible rfl)))
            | (apply awp_cond_t; (focus (simp (disch := omega) only [go_sem, decide_eq_true, decide_eq_false, if_pos, if_neg, wrap_in, maxLen, hb, hg1, hg2, hset]; done))) | (apply awp_cond_f; (focus (simp (disch := omega) only [go_sem, decide_eq_true, decide_eq_false, if_pos, if_neg, wrap_in, maxLen, hb, hg1, hg2, hset]; done)))
            | (apply ret_e; (focus (simp (disch := omega) only [go_sem, decide_eq_true, decide_eq_false, if_pos, if_neg, wrap_in, maxLen, hb, hg1, hg2, hset]; with_reducible rfl)); (focus (simp (disch := omega) only [go_sem, decide_eq_true, decide_eq_false, if_pos, if_neg, wrap_in, maxLen, hb, hg1, hg2, hset]; with_reducible rfl))) | (apply end_e; (focus (simp (disch := omega) only [go_sem, decide_eq_true, decide_eq_false, if_pos, if_neg, wrap_in, maxLen, hb, hg1, hg2, hset]; with_reducible rfl)); (focus (simp (disch := omega) only [go_sem, decide_eq_true, decide_eq_false, if_pos, if_neg, wrap_in, maxLen, hb, hg1, hg2, hset]; with_reducible rfl)))
            | rfl)
          exact ⟨(k + 1, o2.set b.toNat (max (ov o2 b) (ov o2 v + 1))), ⟨by dsimp only; omega, hst⟩, by dsimp only; omega, Weak.of (by omega) (by simp [ConvL, Conv, ints]) (by simp (disch := omega) only [TabSub, look, if_pos, if_neg, Obj.refsOK, refsOKs, AV.refsOK, decide_eq_true_eq, Bool.and_true, Bool.and_self]; (repeat' apply And.intro) <;> first | trivial | omega | rfl | (simp; done)) (by simp (disch := omega) only [refsOKs, AV.refsOK, Bool.and_true, Bool.and_self, decide_eq_true_eq, Bool.true_and, Bool.and_eq_true]; try omega)⟩
        · have hk' : ¬ k < row.length := by simpa using hc
          rw [show row.take k = row from List.take_of_length_le (by omega)] at hf2
          have hlv := hf2.leave fun e he1 he2 => (hrow2 _).2 ⟨e, he1, he2, rfl⟩
          rw [← htk] at hlv
          repeat (first
            | refine awp_seq ?_ | refine awp_block ?_ | refine awp_ret ?_ | refine awp_skip ?_ | refine awp_exit ?_ | refine awp_label ?_
            | refine then_normal ?_ | refine then_ret ?_ | refine then_exit ?_ | refine block_normal ?_ | refine block_ret ?_ | refine block_exit ?_ | refine block_out rfl ?_
            | (apply awp_reg hΓ; (focus (simp (disch := omega) only [go_sem, decide_eq_true, decide_eq_false, if_pos, if_neg, wrap_in, maxLen]; with_reducible rfl)))
            | (apply awp_regf mixedOK hΓ (by kernel_rfl); (focus (simp (disch := omega) only [go_sem, decide_eq_true, decide_eq_false, if_pos, if_neg, wrap_in, maxLen]; with_reducible rfl)); (focus (simp only [go_sem]; with_reducible rfl)))
            | (apply awp_regt mixedOK hΓ rfl; (focus kernel_rfl); (focus (simp (disch := omega) only [go_sem, decide_eq_true, decide_eq_false, if_pos, if_neg, wrap_in, maxLen]; with_reducible rfl)); (focus (simp only [go_sem]; with_reducible rfl)); (focus (simp (disch := omega) only [go_sem, decide_eq_true, decide_eq_false, if_pos, if_neg, wrap_in, maxLen]; with_reducible rfl)))
            | (apply awp_cond_t; (focus (simp (disch := omega) only [go_sem, decide_eq_true, decide_eq_false, if_pos, if_neg, wrap_in, maxLen]; done))) | (apply awp_cond_f; (focus (simp (disch := omega) only [go_sem, decide_eq_true, decide_eq_false, if_pos, if_neg, wrap_in, maxLen]; done)))
            | (apply ret_e; (focus (simp (disch := omega) only [go_sem, decide_eq_true, decide_eq_false, if_pos, if_neg, wrap_in, maxLen]; with_reducible rfl)); (focus (simp (disch := omega) only [go_sem, decide_eq_true, decide_eq_false, if_pos, if_neg, wrap_in, maxLen]; with_reducible rfl))) | (apply end_e; (focus (simp (disch := omega) only [go_sem, decide_eq_true, decide_eq_false, if_pos, if_neg, wrap_in, maxLen]; with_reducible rfl)); (focus (simp (disch := omega) only [go_sem, decide_eq_true, decide_eq_false, if_pos, if_neg, wrap_in, maxLen]; with_reducible rfl)))
            | rfl)
          exact ⟨(i + 1, o2), ⟨by dsimp only; omega, hlv⟩, by dsimp only; omega, Weak.of (by omega) (by simp [ConvL, Conv, ints]) (by simp (disch := omega) only [TabSub, look, if_pos, if_neg, Obj.refsOK, refsOKs, AV.refsOK, decide_eq_true_eq, Bool.and_true, Bool.and_self]; (repeat' apply And.intro) <;> first | trivial | omega | rfl | (simp; done)) (by simp (disch := omega) only [refsOKs, AV.refsOK, Bool.and_true, Bool.and_self, decide_eq_true_eq, Bool.true_and, Bool.and_eq_true]; try omega)⟩
      · have hi' : ¬ i < l.length := by simpa using hc
        rw [List.take_of_length_le (by omega)] at hfw
        have hd := hdep _ (hfw.dep hfit.inr hto hll)
        repeat (first
          | refine awp_seq ?_ | refine awp_block ?_ | refine awp_ret ?_ | refine awp_skip ?_ | refine awp_exit ?_ | refine awp_label ?_
          | refine then_normal ?_ | refine then_ret ?_ | refine then_exit ?_ | refine block_normal ?_ | refine block_ret ?_ | refine block_exit ?_ | refine block_out rfl ?_
          | (apply awp_reg hΓ; (focus (simp (disch := omega) only [go_sem, decide_eq_true, decide_eq_false, if_pos, if_neg, wrap_in, maxLen]; with_reducible rfl)))
          | (apply awp_regf mixedOK hΓ (by kernel_rfl); (focus (simp (disch := omega) only [go_sem, decide_eq_true, decide_eq_false, if_pos, if_neg, wrap_in, maxLen]; with_reducible rfl)); (focus (simp only [go_sem]; with_reducible rfl)))
          | (apply awp_regt mixedOK hΓ rfl; (focus kernel_rfl); (focus (simp (disch := omega) only [go_sem, decide_eq_true, decide_eq_false, if_pos, if_neg, wrap_in, maxLen]; with_reducible rfl)); (focus (simp only [go_sem]; with_reducible rfl)); (focus (simp (disch := omega) only [go_sem, decide_eq_true, decide_eq_false, if_pos, if_neg, wrap_in, maxLen]; with_reducible rfl)))
          | (apply awp_cond_t; (focus (simp (disch := omega) only [go_sem, decide_eq_true, decide_eq_false, if_pos, if_neg, wrap_in, maxLen]; done))) | (apply awp_cond_f; (focus (simp (disch := omega) only [go_sem, decide_eq_true, decide_eq_false, if_pos, if_neg, wrap_in, maxLen]; done)))
          | (apply ret_e; (focus (simp (disch := omega) only [go_sem, decide_eq_true, decide_eq_false, if_pos, if_neg, wrap_in, maxLen]; with_reducible rfl)); (focus (simp (disch := omega) only [go_sem, decide_eq_true, decide_eq_false, if_pos, if_neg, wrap_in, maxLen]; with_reducible rfl))) | (apply end_e; (focus (simp (disch := omega) only [go_sem, decide_eq_true, decide_eq_false, if_pos, if_neg, wrap_in, maxLen]; with_reducible rfl)); (focus (simp (disch := omega) only [go_sem, decide_eq_true, decide_eq_false, if_pos, if_neg, wrap_in, maxLen]; with_reducible rfl)))
          | rfl)
        rw [hd]
  · rw [if_neg hc0] at e12
    repeat (first
      | refine awp_seq ?_ | refine awp_block ?_ | refine awp_ret ?_ | refine awp_skip ?_ | refine awp_exit ?_ | refine awp_label ?_
      | refine then_normal ?_ | refine then_ret ?_ | refine then_exit ?_ | refine block_normal ?_ | refine block_ret ?_ | refine block_exit ?_ | refine block_out rfl ?_
      | (apply awp_reg hΓ; (focus (simp (disch := omega) only [go_sem, decide_eq_true, decide_eq_false, if_pos, if_neg, wrap_in, maxLen, Γ13, e12, n1]; with_reducible rfl)))
      | (apply awp_regf mixedOK hΓ (by kernel_rfl); (focus (simp (disch := omega) only [go_sem, decide_eq_true, decide_eq_false, if_pos, if_neg, wrap_in, maxLen, Γ13, e12, n1]; with_reducible rfl)); (focus (simp only [go_sem]; with_reducible rfl)))
      | (apply awp_regt mixedOK hΓ rfl; (focus kernel_rfl); (focus (simp (disch := omega) only [go_sem, decide_eq_true, decide_eq_false, if_pos, if_neg, wrap_in, maxLen, Γ13, e12, n1]; with_reducible rfl)); (focus (simp only [go_sem]; with_reducible rfl)); (focus (simp (disch := omega) only [go_sem, decide_eq_true, decide_eq_false, if_pos, if_neg, wrap_in, maxLen, Γ13, e12, n1]; with_reducible rfl)))
      | (apply awp_cond_t; (focus (simp (disch := omega) only [go_sem, decide_eq_true, decide_eq_false, if_pos, if_neg, wrap_in, maxLen, Γ13, e12, n1]; done))) | (apply awp_cond_f; (focus (simp (disch := omega) only [go_sem, decide_eq_true, decide_eq_false, if_pos, if_neg, wrap_in, maxLen, Γ13, e12, n1]; done)))
      | (apply ret_e; (focus (simp (disch := omega) only [go_sem, decide_eq_true, decide_eq_false, if_pos, if_neg, wrap_in, maxLen, Γ13, e12, n1]; with_reducible rfl)); (focus (simp (disch := omega) only [go_sem, decide_eq_true, decide_eq_false, if_pos, if_neg, wrap_in, maxLen, Γ13, e12, n1]; with_reducible rfl))) | (apply end_e; (focus (simp (disch := omega) only [go_sem, decide_eq_true, decide_eq_false, if_pos, if_neg, wrap_in, maxLen, Γ13, e12, n1]; with_reducible rfl)); (focus (simp (disch := omega) only [go_sem, decide_eq_true, decide_eq_false, if_pos, if_neg, wrap_in, maxLen, Γ13, e12, n1]; with_reducible rfl)))
      | rfl)
    simp [depR, hc0]
theorem f14_ok : PureOK Try.prog 14 false g13 := by
  have hΓ := Γ13_ok
  refine pure_enc (n := 76) (rs := [.tmp 2, .tmp 3]) Try.func14 (by kernel_rfl) rfl (by kernel_rfl) (by kernel_rfl) ?_
  rintro g hs
  have e12 := g12_eq hs
  rw [orderR_eq] at e12
  refine ⟨fun h => (by cases h), fun c hz0 => ?_⟩
  have n12 : ((12 : Int) != 0) = true := rfl
  have n1 : ((1 : Int) != 0) = true := rfl
  simp only [start, go_sem, emptyH, List.replicate_succ, List.replicate_zero]
  by_cases hc0 : chk g = 0
  · have hfit := chk_fit hc0
    have hn := hfit.nodes
    have he := hfit.edges
    rw [if_pos hc0] at e12
    cases hol : ordL g with
    | none =>
      rw [hol] at e12
      repeat (first
        | refine awp_seq ?_ | refine awp_block ?_ | refine awp_ret ?_ | refine awp_skip ?_ | refine awp_exit ?_ | refine awp_label ?_
        | refine then_normal ?_ | refine then_ret ?_ | refine then_exit ?_ | refine block_normal ?_ | refine block_ret ?_ | refine block_exit ?_ | refine block_out rfl ?_
        | (apply awp_reg hΓ; (focus (simp (disch := omega) only [go_sem, decide_eq_true, decide_eq_false, if_pos, if_neg, wrap_in, maxLen, Γ13, e12, n12]; with_reducible rfl)))
        | (apply awp_regf mixedOK hΓ (by kernel_rfl); (focus (simp (disch := omega) only [go_sem, decide_eq_true, decide_eq_false, if_pos, if_neg, wrap_in, maxLen, Γ13, e12, n12]; with_reducible rfl)); (focus (simp only [go_sem]; with_reducible rfl)))
        | (apply awp_regt mixedOK hΓ rfl; (focus kernel_rfl); (focus (simp (disch := omega) only [go_sem, decide_eq_true, decide_eq_false, if_pos, if_neg, wrap_in, maxLen, Γ13, e12, n12]; with_reducible rfl)); (focus (simp only [go_sem]; with_reducible rfl)); (focus (simp (disch := omega) only [go_sem, decide_eq_true, decide_eq_false, if_pos, if_neg, wrap_in, maxLen, Γ13, e12, n12]; with_reducible rfl)))
        | (apply awp_cond_t; (focus (simp (disch := omega) only [go_sem, decide_eq_true, decide_eq_false, if_pos, if_neg, wrap_in, maxLen, Γ13, e12, n12]; done))) | (apply awp_cond_f; (focus (simp (disch := omega) only [go_sem, decide_eq_true, decide_eq_false, if_pos, if_neg, wrap_in, maxLen, Γ13, e12, n12]; done)))
        | (apply ret_e; (focus (simp (disch := omega) only [go_sem, decide_eq_true, decide_eq_false, if_pos, if_neg, wrap_in, maxLen, Γ13, e12, n12]; with_reducible rfl)); (focus (simp (disch := omega) only [go_sem, decide_eq_true, decide_eq_false, if_pos, if_neg, wrap_in, maxLen, Γ13, e12, n12]; with_reducible rfl))) | (apply end_e; (focus (simp (disch := omega) only [go_sem, decide_eq_true, decide_eq_false, if_pos, if_neg, wrap_in, maxLen, Γ13, e12, n12]; with_reducible rfl)); (focus (simp (disch := omega) only [go_sem, decide_eq_true, decide_eq_false, if_pos, if_neg, wrap_in, maxLen, Γ13, e12, n12]; with_reducible rfl)))
        | rfl)
      simp [depR, hc0, hol]
    | some l =>
      rw [hol] at e12
      obtain ⟨hto, hll⟩ := ordL_topo hfit.inr hol
      have hdep := fun o => dep_eq (o := o) hfit.inr hol
      have hout : depR g = .tup [ints (dep g), i64 0] := by simp only [depR, hc0, if_true, hol]
      rw [hout]
      repeat (first
        | refine awp_seq ?_ | refine awp_block ?_ | refine awp_ret ?_ | refine awp_skip ?_ | refine awp_exit ?_ | refine awp_label ?_
        | refine then_normal ?_ | refine then_ret ?_ | refine then_exit ?_ | refine block_normal ?_ | refine block_ret ?_ | refine block_exit ?_ | refine block_out rfl ?_
        | (apply awp_reg hΓ; (focus (simp (disch := omega) only [go_sem, decide_eq_true, decide_eq_false, if_pos, if_neg, wrap_in, maxLen, Γ13, e12, bne_self_eq_false, ints]; with_reducible rfl)))
        | (apply awp_regf mixedOK hΓ (by kernel_rfl); (focus (simp (disch := omega) only [go_sem, decide_eq_true, decide_eq_false, if_pos, if_neg, wrap_in, maxLen, Γ13, e12, bne_self_eq_false, ints]; with_reducible rfl)); (focus (simp only [go_sem]; with_reducible rfl)))
        | (apply awp_regt mixedOK hΓ rfl; (focus kernel_rfl); (focus (simp (disch := omega) only [go_sem, decide_eq_true, decide_eq_false, if_pos, if_neg, wrap_in, maxLen, Γ13, e12, bne_self_eq_false, ints]; with_reducible rfl)); (focus (simp only [go_sem]; with_reducible rfl)); (focus (simp (disch := omega) only [go_sem, decide_eq_true, decide_eq_false, if_pos, if_neg, wrap_in, maxLen, Γ13, e12, bne_self_eq_false, ints]; with_reducible rfl)))
        | (apply awp_cond_t; (focus (simp (disch := omega) only [go_sem, decide_eq_true, decide_eq_false, if_pos, if_neg, wrap_in, maxLen, Γ13, e12, bne_self_eq_false, ints]; done))) | (apply awp_cond_f; (focus (simp (disch := omega) only [go_sem, decide_eq_true, decide_eq_false, if_pos, if_neg, wrap_in, maxLen, Γ13, e12, bne_self_eq_false, ints]; done)))
        | (apply ret_e; (focus (simp (disch := omega) only [go_sem, decide_eq_true, decide_eq_false, if_pos, if_neg, wrap_in, maxLen, Γ13, e12, bne_self_eq_false, ints]; with_reducible rfl)); (focus (simp (disch := omega) only [go_sem, decide_eq_true, decide_eq_false, if_pos, if_neg, wrap_in, maxLen, Γ13, e12, bne_self_eq_false, ints]; with_reducible rfl))) | (apply end_e; (focus (simp (disch := omega) only [go_sem, decide_eq_true, decide_eq_false, if_pos, if_neg, wrap_in, maxLen, Γ13, e12, bne_self_eq_false, ints]; with_reducible rfl)); (focus (simp (disch := omega) only [go_sem, decide_eq_true, decide_eq_false, if_pos, if_neg, wrap_in, maxLen, Γ13, e12, bne_self_eq_false, ints]; with_reducible rfl)))
        | rfl)
      have hfw0 : Bwd g [] (List.replicate g.nodes.length 0) := by
        have hz : ∀ w : Int, 0 ≤ w → w < g.nodes.length → ov (List.replicate g.nodes.length 0) w = 0 := fun w h0 h1 => by
          unfold ov
          rw [List.getD_eq_getElem?_getD, List.getElem?_replicate, if_pos (by omega)]
          rfl
        exact ⟨by simp, fun w h => (by cases h), fun w h0 h1 _ => hz w h0 h1, fun w h0 h1 => by rw [hz w h0 h1]; simp⟩
      refine awp_loop_at (X := Nat × List Int) (fun x => (.junk :: .ptr 0 0 :: .junk :: .junk :: .data (ints l) :: .junk :: .row 15 g.nodes.length :: .data (i64 x.1) :: .junk :: .junk :: .junk :: .junk :: .junk :: .junk :: .junk :: .junk :: .junk :: .junk :: .junk :: .junk :: .junk :: .junk :: .junk :: .junk :: .junk :: .junk :: .junk :: .junk :: .junk :: .junk :: .junk :: .junk :: .junk :: .junk :: .junk :: .junk :: .junk :: .junk :: .junk :: .junk :: .junk :: .junk :: .junk :: .junk :: .junk :: .junk :: .junk :: .junk :: .junk :: .junk :: .junk :: .junk :: .junk :: .junk :: .junk :: .junk :: .junk :: .junk :: .junk :: .junk :: .junk :: .junk :: .junk :: .junk :: .junk :: .junk :: .junk :: .junk :: .junk :: .junk :: .junk :: .junk :: .junk :: .junk :: .junk :: .junk :: []))
        (fun x => [(0, .box [.data (.list (g.nodes.map .str)), .data (.list (g.edges.map eD))]), (15, .row 3 1 (x.2.map i64))]) 16
        (fun x => x.1 ≤ l.length ∧ Bwd g (l.take x.1) x.2) (fun x => l.length - x.1)
        (0, List.replicate g.nodes.length 0) ⟨Nat.zero_le _, hfw0⟩ (Weak.of (by omega) (by simp [ConvL, Conv, ints, List.map_replicate]) (by simp (disch := omega) only [TabSub, look, if_pos, if_neg, Obj.refsOK, refsOKs, AV.refsOK, decide_eq_true_eq, Bool.and_true, Bool.and_self, List.map_replicate]; (repeat' apply And.intro) <;> first | trivial | omega | rfl | (simp; done)) (by simp (disch := omega) only [refsOKs, AV.refsOK, Bool.and_true, Bool.and_self, decide_eq_true_eq, Bool.true_and, Bool.and_eq_true]; try omega)) ?_
      rintro ⟨i, o⟩ ⟨hi, hfw⟩
      dsimp only at hi hfw
      have hol2 := hfw.len
      repeat (first
        | refine awp_seq ?_ | refine awp_block ?_ | refine awp_ret ?_ | refine awp_skip ?_ | refine awp_exit ?_ | refine awp_label ?_
        | refine then_normal ?_ | refine then_ret ?_ | refine then_exit ?_ | refine block_normal ?_ | refine block_ret ?_ | refine block_exit ?_ | refine block_out rfl ?_
        | (apply awp_reg hΓ; (focus (simp (disch := omega) only [go_sem, decide_eq_true, decide_eq_false, if_pos, if_neg, wrap_in, maxLen, ints]; with_reducible rfl)))
        | (apply awp_regf mixedOK hΓ (by kernel_rfl); (focus (simp (disch := omega) only [go_sem, decide_eq_true, decide_eq_false, if_pos, if_neg, wrap_in, maxLen, ints]; with_reducible rfl)); (focus (simp only [go_sem]; with_reducible rfl)))
        | (apply awp_regt mixedOK hΓ rfl; (focus kernel_rfl); (focus (simp (disch := omega) only [go_sem, decide_eq_true, decide_eq_false, if_pos, if_neg, wrap_in, maxLen, ints]; with_reducible rfl)); (focus (simp only [go_sem]; with_reducible rfl)); (focus (simp (disch := omega) only [go_sem, decide_eq_true, decide_eq_false, if_pos, if_neg, wrap_in, maxLen, ints]; with_reducible rfl)))
        | (apply awp_cond_t; (focus (simp (disch := omega) only [go_sem, decide_eq_true, decide_eq_false, if_pos, if_neg, wrap_in, maxLen, ints]; done))) | (apply awp_cond_f; (focus (simp (disch := omega) only [go_sem, decide_eq_true, decide_eq_false, if_pos, if_neg, wrap_in, maxLen, ints]; done)))
        | (apply ret_e; (focus (simp (disch := omega) only [go_sem, decide_eq_true, decide_eq_false, if_pos, if_neg, wrap_in, maxLen, ints]; with_reducible rfl)); (focus (simp (disch := omega) only [go_sem, decide_eq_true, decide_eq_false, if_pos, if_neg, wrap_in, maxLen, ints]; with_reducible rfl))) | (apply end_e; (focus (simp (disch := omega) only [go_sem, decide_eq_true, decide_eq_false, if_pos, if_neg, wrap_in, maxLen, ints]; with_reducible rfl)); (focus (simp (disch := omega) only [go_sem, decide_eq_true, decide_eq_false, if_pos, if_neg, wrap_in, maxLen, ints]; with_reducible rfl)))
        | rfl)
      refine awp_cond (by simp (disch := omega) only [go_sem]; rfl) (fun hc => ?_) (fun hc => ?_)
      · have hi' : i < l.length := by simpa using hc
        have hsp := take_split hi'
        obtain ⟨v0, v1⟩ := hto.inr _ (List.getElem_mem hi')
        have hnd := hto.nodup
        rw [hsp, List.nodup_append] at hnd
        have hvp : l[i] ∉ l.take i := fun hm => hnd.2.2 _ hm _ List.mem_cons_self rfl
        have hin := hfw.enter v0 v1 hvp
        have htk : l.take (i + 1) = l.take i ++ [l[i]] := by rw [List.take_add_one, List.getElem?_eq_getElem hi']; rfl
        have hpl : (l.take i).length ≤ i := List.length_take_le _ _
        have hpre : ∀ e ∈ g.edges, e.to = l[i] → e.fr ∈ l.take i := hto.pre _ _ _ hsp
        have hcl : ∀ e ∈ g.edges, e.to ∈ l.take i → e.fr ∈ l.take i := fun e he1 hm => by
          obtain ⟨j, hj, hjb⟩ := List.mem_iff_getElem.1 hm
          have hj2 : j < i := by simp at hj; omega
          rw [List.getElem_take] at hjb
          have h1 := hto.pre _ _ _ (take_split (l := l) (i := j) (by omega)) e he1 hjb.symm
          exact (List.take_sublist_take_left (by omega : j ≤ i)).subset h1
        have hpin : ∀ w ∈ l.take i, 0 ≤ w ∧ w < g.nodes.length := fun w hw => hto.inr w (List.mem_of_mem_take hw)
        generalize hv : l[i] = v at *
        repeat (first
          | refine awp_seq ?_ | refine awp_block ?_ | refine awp_ret ?_ | refine awp_skip ?_ | refine awp_exit ?_ | refine awp_label ?_
          | refine then_normal ?_ | refine then_ret ?_ | refine then_exit ?_ | refine block_normal ?_ | refine block_ret ?_ | refine block_exit ?_ | refine block_out rfl ?_
          | (apply awp_reg hΓ; (focus (simp (disch := omega) only [go_sem, decide_eq_true, decide_eq_false, if_pos, if_neg, wrap_in, maxLen, ints]; with_reducible rfl)))
          | (apply awp_regf mixedOK hΓ (by kernel_rfl); (focus (simp (disch := omega) only [go_sem, decide_eq_true, decide_eq_false, if_pos, if_neg, wrap_in, maxLen, ints]; with_reducible rfl)); (focus (simp only [go_sem]; with_reducible rfl)))
          | (apply awp_regt mixedOK hΓ rfl; (focus kernel_rfl); (focus (simp (disch := omega) only [go_sem, decide_eq_true, decide_eq_false, if_pos, if_neg, wrap_in, maxLen, ints]; with_reducible rfl)); (focus (simp only [go_sem]; with_reducible rfl)); (focus (simp (disch := omega) only [go_sem, decide_eq_true, decide_eq_false, if_pos, if_neg, wrap_in, maxLen, ints]; with_reducible rfl)))
          | (apply awp_cond_t; (focus (simp (disch := omega) only [go_sem, decide_eq_true, decide_eq_false, if_pos, if_neg, wrap_in, maxLen, ints]; done))) | (apply awp_cond_f; (focus (simp (disch := omega) only [go_sem, decide_eq_true, decide_eq_false, if_pos, if_neg, wrap_in, maxLen, ints]; done)))
          | (apply ret_e; (focus (simp (disch := omega) only [go_sem, decide_eq_true, decide_eq_false, if_pos, if_neg, wrap_in, maxLen, ints]; with_reducible rfl)); (focus (simp (disch := omega) only [go_sem, decide_eq_true, decide_eq_false, if_pos, if_neg, wrap_in, maxLen, ints]; with_reducible rfl))) | (apply end_e; (focus (simp (disch := omega) only [go_sem, decide_eq_true, decide_eq_false, if_pos, if_neg, wrap_in, maxLen, ints]; with_reducible rfl)); (focus (simp (disch := omega) only [go_sem, decide_eq_true, decide_eq_false, if_pos, if_neg, wrap_in, maxLen, ints]; with_reducible rfl)))
          | rfl)
        refine awp_loop_at (X := Nat × List Int) (fun x => (.junk :: .ptr 0 0 :: .junk :: .junk :: .data (ints l) :: .junk :: .row 15 g.nodes.length :: .data (i64 i) :: .data (i64 x.1) :: .junk :: .junk :: .junk :: .junk :: .junk :: .junk :: .junk :: .junk :: .junk :: .junk :: .junk :: .junk :: .junk :: .junk :: .junk :: .junk :: .junk :: .junk :: .junk :: .junk :: .junk :: .junk :: .junk :: .junk :: .junk :: .junk :: .junk :: .junk :: .junk :: .junk :: .junk :: .junk :: .junk :: .junk :: .junk :: .junk :: .junk :: .junk :: .junk :: .junk :: .junk :: .junk :: .junk :: .junk :: .junk :: .junk :: .junk :: .junk :: .junk :: .junk :: .junk :: .junk :: .junk :: .junk :: .junk :: .junk :: .junk :: .junk :: .junk :: .junk :: .junk :: .junk :: .junk :: .junk :: .junk :: .junk :: .junk :: []))
          (fun x => [(0, .box [.data (.list (g.nodes.map .str)), .data (.list (g.edges.map eD))]), (15, .row 3 1 (x.2.map i64))]) 16
          (fun x => x.1 ≤ g.edges.length ∧ BwdIn g (l.take i) v x.1 x.2) (fun x => g.edges.length - x.1)
          (0, o) ⟨Nat.zero_le _, hin⟩ (Weak.of (by omega) (by simp [ConvL, Conv, ints]) (by simp (disch := omega) only [TabSub, look, if_pos, if_neg, Obj.refsOK, refsOKs, AV.refsOK, decide_eq_true_eq, Bool.and_true, Bool.and_self]; (repeat' apply And.intro) <;> first | trivial | omega | rfl | (simp; done)) (by simp (disch := omega) only [refsOKs, AV.refsOK, Bool.and_true, Bool.and_self, decide_eq_true_eq, Bool.true_and, Bool.and_eq_true]; try omega)) ?_
        rintro ⟨k, o2⟩ ⟨hk, hf2⟩
        dsimp only at hk hf2
        have hol3 := hf2.len
        repeat (first
          | refine awp_seq ?_ | refine awp_block ?_ | refine awp_ret ?_ | refine awp_skip ?_ | refine awp_exit ?_ | refine awp_label ?_
          | refine then_normal ?_ | refine then_ret ?_ | refine then_exit ?_ | refine block_normal ?_ | refine block_ret ?_ | refine block_exit ?_ | refine block_out rfl ?_
          | (apply awp_reg hΓ; (focus (simp (disch := omega) only [go_sem, decide_eq_true, decide_eq_false, if_pos, if_neg, wrap_in, maxLen, ints]; with_reducible rfl)))
          | (apply awp_regf mixedOK hΓ (by kernel_rfl); (focus (simp (disch := omega) only [go_sem, decide_eq_true, decide_eq_false, if_pos, if_neg, wrap_in, maxLen, ints]; with_reducible rfl)); (focus (simp only [go_sem]; with_reducible rfl)))
          | (apply awp_regt mixedOK hΓ rfl; (focus kernel_rfl); (focus (simp (disch := omega) only [go_sem, decide_eq_true, decide_eq_false, if_pos, if_neg, wrap_in, maxLen, ints]; with_reducible rfl)); (focus (simp only [go_sem]; with_reducible rfl)); (focus (simp (disch := omega) only [go_sem, decide_eq_true, decide_eq_false, if_pos, if_neg, wrap_in, maxLen, ints]; with_reducible rfl)))
          | (apply awp_cond_t; (focus (simp (disch := omega) only [go_sem, decide_eq_true, decide_eq_false, if_pos, if_neg, wrap_in, maxLen, ints]; done))) | (apply awp_cond_f; (focus (simp (disch := omega) only [go_sem, decide_eq_true, decide_eq_false, if_pos, if_neg, wrap_in, maxLen, ints]; done)))
          | (apply ret_e; (focus (simp (disch := omega) only [go_sem, decide_eq_true, decide_eq_false, if_pos, if_neg, wrap_in, maxLen, ints]; with_reducible rfl)); (focus (simp (disch := omega) only [go_sem, decide_eq_true, decide_eq_false, if_pos, if_neg, wrap_in, maxLen, ints]; with_reducible rfl))) | (apply end_e; (focus (simp (disch := omega) only [go_sem, decide_eq_true, decide_eq_false, if_pos, if_neg, wrap_in, maxLen, ints]; with_reducible rfl)); (focus (simp (disch := omega) only [go_sem, decide_eq_true, decide_eq_false, if_pos, if_neg, wrap_in, maxLen, ints]; with_reducible rfl)))
          | rfl)
        refine awp_cond (by simp (disch := omega) only [go_sem]; rfl) (fun hc => ?_) (fun hc => ?_)
        · have hk' : k < g.edges.length := by simpa using hc
          have hem := List.getElem_mem hk'
          obtain ⟨r1, r2, r3, r4⟩ := hfit.inr _ hem
          have hskip := hf2.skip hk'
          have hup := fun h1 => hf2.up hfit.inr hk' h1 hvp hpre hcl hpin
          have hprk := hpre _ hem
          generalize hx : g.edges[k] = x at r1 r2 r3 r4 hskip hup hprk
          have hg1 := ov_get (out := o2) (v := x.fr) (by omega)
          have hg2 := ov_get (out := o2) (v := v) (by omega)
          have hbn := hf2.bdn
          obtain ⟨hp2, _⟩ := hf2.here
          by_cases k1 : x.to = v
          · have k1' : (x.to == v) = true := by simpa using k1
            have hfp := hprk k1
            have hfv : x.fr ≠ v := fun h => hvp (h ▸ hfp)
            have hfb := hf2.bd _ r1 r2 hfv
            obtain ⟨hp1, _⟩ := hf2.val _ hfp
            by_cases k2 : ov o2 v < ov o2 x.fr + 1
            · have hset : (o2.map i64).set v.toNat (.int .i64 (ov o2 x.fr + 1)) = (o2.set v.toNat (ov o2 x.fr + 1)).map i64 := by rw [List.map_set]
              repeat (first
                | refine awp_seq ?_ | refine awp_block ?_ | refine awp_ret ?_ | refine awp_skip ?_ | refine awp_exit ?_ | refine awp_label ?_
                | refine then_normal ?_ | refine then_ret ?_ | refine then_exit ?_ | refine block_normal ?_ | refine block_ret ?_ | refine block_exit ?_ | refine block_out rfl ?_
                | (apply awp_reg hΓ; (focus (simp (disch := omega) only [go_sem, decide_eq_true, decide_eq_false, if_pos, if_neg, wrap_in, maxLen, hv, hx, k1', hg1, hg2, hset]; with_reducible rfl)))
                | (apply awp_regf mixedOK hΓ (by kernel_rfl); (focus (simp (disch := omega) only [go_sem, decide_eq_true, decide_eq_false, if_pos, if_neg, wrap_in, maxLen, hv, hx, k1', hg1, hg2, hset]; with_reducible rfl)); (focus (simp only [go_sem]; with_reducible rfl)))
                | (apply awp_regt mixedOK hΓ rfl; (focus kernel_rfl); (focus (simp (disch := omega) only [go_sem, decide_eq_true, decide_eq_false, if_pos, if_neg, wrap_in, maxLen, hv, hx, k1', hg1, hg2, hset]; with_reducible rfl)); (focus (simp only [go_sem]; with_reducible rfl)); (focus (simp (disch := omega) only [go_sem, decide_eq_true, decide_eq_false, if_pos, if_neg, wrap_in, maxLen, hv, hx, k1', hg1, hg2, hset]; with_reducible rfl)))
                | (apply awp_cond_t; (focus (simp (disch := omega) only [go_sem, decide_eq_true, decide_eq_false, if_pos, if_neg, wrap_in, maxLen, hv, hx, k1', hg1, hg2, hset]; done))) | (apply awp_cond_f; (focus (simp (disch := omega) only [go_sem, decide_eq_true, decide_eq_false, if_pos, if_neg, wrap_in, maxLen, hv, hx, k1', hg1, hg2, hset]; done)))
                | (apply ret_e; (focus (simp (disch := omega) only [go_sem, decide_eq_true, decide_eq_false, if_pos, if_neg, wrap_in, maxLen, hv, hx, k1', hg1, hg2, hset]; with_reducible rfl)); (focus (simp (disch := omega) only [go_sem, decide_eq_true, decide_eq_false, if_pos, if_neg, wrap_in, maxLen, hv, hx, k1', hg1, hg2, hset]; with_reducible rfl))) | (apply end_e; (focus (simp (disch := omega) only [go_sem, decide_eq_true, decide_eq_false, if_pos, if_neg, wrap_in, maxLen, hv, hx, k1', hg1, hg2, hset]; with_reducible rfl)); (focus (simp (disch := omega) only [go_sem, decide_eq_true, decide_eq_false, if_pos, if_neg, wrap_in, maxLen, hv, hx, k1', hg1, hg2, hset]; with_reducible rfl)))
                | rfl)
              exact ⟨(k + 1, o2.set v.toNat (ov o2 x.fr + 1)), ⟨by dsimp only; omega, hup k1 k2⟩, by dsimp only; omega, Weak.of (by omega) (by simp [ConvL, Conv, ints]) (by simp (disch := omega) only [TabSub, look, if_pos, if_neg, Obj.refsOK, refsOKs, AV.refsOK, decide_eq_true_eq, Bool.and_true, Bool.and_self]; (repeat' apply And.intro) <;> first | trivial | omega | rfl | (simp; done)) (by simp (disch := omega) only [refsOKs, AV.refsOK, Bool.and_true, Bool.and_self, decide_eq_true_eq, Bool.true_and, Bool.and_eq_true]; try omega)⟩
            · repeat (first
              | refine awp_seq ?_ | refine awp_block ?_ | refine awp_ret ?_ | refine awp_skip ?_ | refine awp_exit ?_ | refine awp_label ?_
              | refine then_normal ?_ | refine then_ret ?_ | refine then_exit ?_ | refine block_normal ?_ | refine block_ret ?_ | refine block_exit ?_ | refine block_out rfl ?_
              | (apply awp_reg hΓ; (focus (simp (disch := omega) only [go_sem, decide_eq_true, decide_eq_false, if_pos, if_neg, wrap_in, maxLen, hv, hx, k1', hg1, hg2]; with_reducible rfl)))
              | (apply awp_regf mixedOK hΓ (by kernel_rfl); (focus (simp (disch := omega) only [go_sem, decide_eq_true, decide_eq_false, if_pos, if_neg, wrap_in, maxLen, hv, hx, k1', hg1, hg2]; with_reducible rfl)); (focus (simp only [go_sem]; with_reducible rfl)))
              | (apply awp_regt mixedOK hΓ rfl; (focus kernel_rfl); (focus (simp (disch := omega) only [go_sem, decide_eq_true, decide_eq_false, if_pos, if_neg, wrap_in, maxLen, hv, hx, k1', hg1, hg2]; with_reducible rfl)); (focus (simp only [go_sem]; with_reducible rfl)); (focus (simp (disch := omega) only [go_sem, decide_eq_true, decide_eq_false, if_pos, if_neg, wrap_in, maxLen, hv, hx, k1', hg1, hg2]; with_reducible rfl)))
              | (apply awp_cond_t; (focus (simp (disch := omega) only [go_sem, decide_eq_true, decide_eq_false, if_pos, if_neg, wrap_in, maxLen, hv, hx, k1', hg1, hg2]; done))) | (apply awp_cond_f; (focus (simp (disch := omega) only [go_sem, decide_eq_true, decide_eq_false, if_pos, if_neg, wrap_in, maxLen, hv, hx, k1', hg1, hg2]; done)))
              | (apply ret_e; (focus (simp (disch := omega) only [go_sem, decide_eq_true, decide_eq_false, if_pos, if_neg, wrap_in, maxLen, hv, hx, k1', hg1, hg2]; with_reducible rfl)); (focus (simp (disch := omega) only [go_sem, decide_eq_true, decide_eq_false, if_pos, if_neg, wrap_in, maxLen, hv, hx, k1', hg1, hg2]; with_reducible rfl))) | (apply end_e; (focus (simp (disch := omega) only [go_sem, decide_eq_true, decide_eq_false, if_pos, if_neg, wrap_in, maxLen, hv, hx, k1', hg1, hg2]; with_reducible rfl)); (focus (simp (disch := omega) only [go_sem, decide_eq_true, decide_eq_false, if_pos, if_neg, wrap_in, maxLen, hv, hx, k1', hg1, hg2]; with_reducible rfl)))
              | rfl)
              exact ⟨(k + 1, o2), ⟨by dsimp only; omega, hskip fun _ => by omega⟩, by dsimp only; omega, Weak.of (by omega) (by simp [ConvL, Conv, ints]) (by simp (disch := omega) only [TabSub, look, if_pos, if_neg, Obj.refsOK, refsOKs, AV.refsOK, decide_eq_true_eq, Bool.and_true, Bool.and_self]; (repeat' apply And.intro) <;> first | trivial | omega | rfl | (simp; done)) (by simp (disch := omega) only [refsOKs, AV.refsOK, Bool.and_true, Bool.and_self, decide_eq_true_eq, Bool.true_and, Bool.and_eq_true]; try omega)⟩
          · have k1' : (x.to == v) = false := by simpa using k1
            repeat (first
              | refine awp_seq ?_ | refine awp_block ?_ | refine awp_ret ?_ | refine awp_skip ?_ | refine awp_exit ?_ | refine awp_label ?_
              | refine then_normal ?_ | refine then_ret ?_ | refine then_exit ?_ | refine block_normal ?_ | refine block_ret ?_ | refine block_exit ?_ | refine block_out rfl ?_
              | (apply awp_reg hΓ; (focus (simp (disch := omega) only [go_sem, decide_eq_true, decide_eq_false, if_pos, if_neg, wrap_in, maxLen, hv, hx, k1', hg1, hg2]; with_reducible rfl)))
              | (apply awp_regf mixedOK hΓ (by kernel_rfl); (focus (simp (disch := omega) only [go_sem, decide_eq_true, decide_eq_false, if_pos, if_neg, wrap_in, maxLen, hv, hx, k1', hg1, hg2]; with_reducible rfl)); (focus (simp only [go_sem]; with_reducible rfl)))
              | (apply awp_regt mixedOK hΓ rfl; (focus kernel_rfl); (focus (simp (disch := omega) only [go_sem, decide_eq_true, decide_eq_false, if_pos, if_neg, wrap_in, maxLen, hv, hx, k1', hg1, hg2]; with_reducible rfl)); (focus (simp only [go_sem]; with_reducible rfl)); (focus (simp (disch := omega) only [go_sem, decide_eq_true, decide_eq_false, if_pos, if_neg, wrap_in, maxLen, hv, hx, k1', hg1, hg2]; with_reducible rfl)))
              | (apply awp_cond_t; (focus (simp (disch := omega) only [go_sem, decide_eq_true, decide_eq_false, if_pos, if_neg, wrap_in, maxLen, hv, hx, k1', hg1, hg2]; done))) | (apply awp_cond_f; (focus (simp (disch := omega) only [go_sem, decide_eq_true, decide_eq_false, if_pos, if_neg, wrap_in, maxLen, hv, hx, k1', hg1, hg2]; done)))
              | (apply ret_e; (focus (simp (disch := omega) only [go_sem, decide_eq_true, decide_eq_false, if_pos, if_neg, wrap_in, maxLen, hv, hx, k1', hg1, hg2]; with_reducible rfl)); (focus (simp (disch := omega) only [go_sem, decide_eq_true, decide_eq_false, if_pos, if_neg, wrap_in, maxLen, hv, hx, k1', hg1, hg2]; with_reducible rfl))) | (apply end_e; (focus (simp (disch := omega) only [go_sem, decide_eq_true, decide_eq_false, if_pos, if_neg, wrap_in, maxLen, hv, hx, k1', hg1, hg2]; with_reducible rfl)); (focus (simp (disch := omega) only [go_sem, decide_eq_true, decide_eq_false, if_pos, if_neg, wrap_in, maxLen, hv, hx, k1', hg1, hg2]; with_reducible rfl)))
              | rfl)
            exact ⟨(k + 1, o2), ⟨by dsimp only; omega, hskip fun h => absurd h k1⟩, by dsimp only; omega, Weak.of (by omega) (by simp [ConvL, Conv, ints]) (by simp (disch := omega) only [TabSub, look, if_pos, if_neg, Obj.refsOK, refsOKs, AV.refsOK, decide_eq_true_eq, Bool.and_true, Bool.and_self]; (repeat' apply And.intro) <;> first | trivial | omega | rfl | (simp; done)) (by simp (disch := omega) only [refsOKs, AV.refsOK, Bool.and_true, Bool.and_self, decide_eq_true_eq, Bool.true_and, Bool.and_eq_true]; try omega)⟩
        · have hk' : ¬ k < g.edges.length := by simpa using hc
          rw [show k = g.edges.length by omega] at hf2
          have hlv := hf2.leave
          rw [← htk] at hlv
          repeat (first
            | refine awp_seq ?_ | refine awp_block ?_ | refine awp_ret ?_ | refine awp_skip ?_ | refine awp_exit ?_ | refine awp_label ?_
            | refine then_normal ?_ | refine then_ret ?_ | refine then_exit ?_ | refine block_normal ?_ | refine block_ret ?_ | refine block_exit ?_ | refine block_out rfl ?_
            | (apply awp_reg hΓ; (focus (simp (disch := omega) only [go_sem, decide_eq_true, decide_eq_false, if_pos, if_neg, wrap_in, maxLen]; with_reducible rfl)))
            | (apply awp_regf mixedOK hΓ (by kernel_rfl); (focus (simp (disch := omega) only [go_sem, decide_eq_true, decide_eq_false, if_pos, if_neg, wrap_in, maxLen]; with_reducible rfl)); (focus (simp only [go_sem]; with_reducible rfl)))
            | (apply awp_regt mixedOK hΓ rfl; (focus kernel_rfl); (focus (simp (disch := omega) only [go_sem, decide_eq_true, decide_eq_false, if_pos, if_neg, wrap_in, maxLen]; with_reducible rfl)); (focus (simp only [go_sem]; with_reducible rfl)); (focus (simp (disch := omega) only [go_sem, decide_eq_true, decide_eq_false, if_pos, if_neg, wrap_in, maxLen]; with_reducible rfl)))
            | (apply awp_cond_t; (focus (simp (disch := omega) only [go_sem, decide_eq_true, decide_eq_false, if_pos, if_neg, wrap_in, maxLen]; done))) | (apply awp_cond_f; (focus (simp (disch := omega) only [go_sem, decide_eq_true, decide_eq_false, if_pos, if_neg, wrap_in, maxLen]; done)))
            | (apply ret_e; (focus (simp (disch := omega) only [go_sem, decide_eq_true, decide_eq_false, if_pos, if_neg, wrap_in, maxLen]; with_reducible rfl)); (focus (simp (disch := omega) only [go_sem, decide_eq_true, decide_eq_false, if_pos, if_neg, wrap_in, maxLen]; with_reducible rfl))) | (apply end_e; (focus (simp (disch := omega) only [go_sem, decide_eq_true, decide_eq_false, if_pos, if_neg, wrap_in, maxLen]; with_reducible rfl)); (focus (simp (disch := omega) only [go_sem, decide_eq_true, decide_eq_false, if_pos, if_neg, wrap_in, maxLen]; with_reducible rfl)))
            | rfl)
          exact ⟨(i + 1, o2), ⟨by dsimp only; omega, hlv⟩, by dsimp only; omega, Weak.of (by omega) (by simp [ConvL, Conv, ints]) (by simp (disch := omega) only [TabSub, look, if_pos, if_neg, Obj.refsOK, refsOKs, AV.refsOK, decide_eq_true_eq, Bool.and_true, Bool.and_self]; (repeat' apply And.intro) <;> first | trivial | omega | rfl | (simp; done)) (by simp (disch := omega) only [refsOKs, AV.refsOK, Bool.and_true, Bool.and_self, decide_eq_true_eq, Bool.true_and, Bool.and_eq_true]; try omega)⟩
      · have hi' : ¬ i < l.length := by simpa using hc
        rw [List.take_of_length_le (by omega)] at hfw
        have hd := hdep _ (hfw.dep hto hll)
        repeat (first
          | refine awp_seq ?_ | refine awp_block ?_ | refine awp_ret ?_ | refine awp_skip ?_ | refine awp_exit ?_ | refine awp_label ?_
          | refine then_normal ?_ | refine then_ret ?_ | refine then_exit ?_ | refine block_normal ?_ | refine block_ret ?_ | refine block_exit ?_ | refine block_out rfl ?_
          | (apply awp_reg hΓ; (focus (simp (disch := omega) only [go_sem, decide_eq_true, decide_eq_false, if_pos, if_neg, wrap_in, maxLen]; with_reducible rfl)))
          | (apply awp_regf mixedOK hΓ (by kernel_rfl); (focus (simp (disch := omega) only [go_sem, decide_eq_true, decide_eq_false, if_pos, if_neg, wrap_in, maxLen]; with_reducible rfl)); (focus (simp only [go_sem]; with_reducible rfl)))
          | (apply awp_regt mixedOK hΓ rfl; (focus kernel_rfl); (focus (simp (disch := omega) only [go_sem, decide_eq_true, decide_eq_false, if_pos, if_neg, wrap_in, maxLen]; with_reducible rfl)); (focus (simp only [go_sem]; with_reducible rfl)); (focus (simp (disch := omega) only [go_sem, decide_eq_true, decide_eq_false, if_pos, if_neg, wrap_in, maxLen]; with_reducible rfl)))
          | (apply awp_cond_t; (focus (simp (disch := omega) only [go_sem, decide_eq_true, decide_eq_false, if_pos, if_neg, wrap_in, maxLen]; done))) | (apply awp_cond_f; (focus (simp (disch := omega) only [go_sem, decide_eq_true, decide_eq_false, if_pos, if_neg, wrap_in, maxLen]; done)))
          | (apply ret_e; (focus (simp (disch := omega) only [go_sem, decide_eq_true, decide_eq_false, if_pos, if_neg, wrap_in, maxLen]; with_reducible rfl)); (focus (simp (disch := omega) only [go_sem, decide_eq_true, decide_eq_false, if_pos, if_neg, wrap_in, maxLen]; with_reducible rfl))) | (apply end_e; (focus (simp (disch := omega) only [go_sem, decide_eq_true, decide_eq_false, if_pos, if_neg, wrap_in, maxLen]; with_reducible rfl)); (focus (simp (disch := omega) only [go_sem, decide_eq_true, decide_eq_false, if_pos, if_neg, wrap_in, maxLen]; with_reducible rfl)))
          | rfl)
        rw [hd]
  · rw [if_neg hc0] at e12
    repeat (first
      | refine awp_seq ?_ | refine awp_block ?_ | refine awp_ret ?_ | refine awp_skip ?_ | refine awp_exit ?_ | refine awp_label ?_
      | refine then_normal ?_ | refine then_ret ?_ | refine then_exit ?_ | refine block_normal ?_ | refine block_ret ?_ | refine block_exit ?_ | refine block_out rfl ?_
      | (apply awp_reg hΓ; (focus (simp (disch := omega) only [go_sem, decide_eq_true, decide_eq_false, if_pos, if_neg, wrap_in, maxLen, Γ13, e12, n1]; with_reducible rfl)))
      | (apply awp_regf mixedOK hΓ (by kernel_rfl); (focus (simp (disch := omega) only [go_sem, decide_eq_true, decide_eq_false, if_pos, if_neg, wrap_in, maxLen, Γ13, e12, n1]; with_reducible rfl)); (focus (simp only [go_sem]; with_reducible rfl)))
      | (apply awp_regt mixedOK hΓ rfl; (focus kernel_rfl); (focus (simp (disch := omega) only [go_sem, decide_eq_true, decide_eq_false, if_pos, if_neg, wrap_in, maxLen, Γ13, e12, n1]; with_reducible rfl)); (focus (simp only [go_sem]; with_reducible rfl)); (focus (simp (disch := omega) only [go_sem, decide_eq_true, decide_eq_false, if_pos, if_neg, wrap_in, maxLen, Γ13, e12, n1]; with_reducible rfl)))
      | (apply awp_cond_t; (focus (simp (disch := omega) only [go_sem, decide_eq_true, decide_eq_false, if_pos, if_neg, wrap_in, maxLen, Γ13, e12, n1]; done))) | (apply awp_cond_f; (focus (simp (disch := omega) only [go_sem, decide_eq_true, decide_eq_false, if_pos, if_neg, wrap_in, maxLen, Γ13, e12, n1]; done)))
      | (apply ret_e; (focus (simp (disch := omega) only [go_sem, decide_eq_true, decide_eq_false, if_pos, if_neg, wrap_in, maxLen, Γ13, e12, n1]; with_reducible rfl)); (focus (simp (disch := omega) only [go_sem, decide_eq_true, decide_eq_false, if_pos, if_neg, wrap_in, maxLen, Γ13, e12, n1]; with_reducible rfl))) | (apply end_e; (focus (simp (disch := omega) only [go_sem, decide_eq_true, decide_eq_false, if_pos, if_neg, wrap_in, maxLen, Γ13, e12, n1]; with_reducible rfl)); (focus (simp (disch := omega) only [go_sem, decide_eq_true, decide_eq_false, if_pos, if_neg, wrap_in, maxLen, Γ13, e12, n1]; with_reducible rfl)))
      | rfl)
    simp [depR, hc0]
end Go.Ab
