/-
  One text of the proof (own work): contracts of functions of the program, by the abstract machine.
-/
import Derived.Test.YtpecnbkfahekdaaA17
set_option linter.unusedVariables false
set_option linter.unusedSimpArgs false
namespace Go.Ab
open Go Go.RowKit Go.Proofs
set_option maxRecDepth 4000
set_option maxHeartbeats 4000000

theorem pure_union {P : Program} {f : FuncId} {fl : Bool} {g : List D → Option D} (h : ∀ ds d, g ds = some d → ∃ g', PureOK P f fl g' ∧ g' ds = some d) : PureOK P f fl g := fun ds d hd => by
  obtain ⟨g', h1, h2⟩ := h ds d hd
  exact h1 ds d h2
structure DomIdx (d : List Int) (a : Int) (l : List Edge) : Prop where
  a0 : 0 ≤ a
  a1 : a.toNat < d.length
  lo : ∀ x ∈ d, -1 ≤ x ∧ x ≤ 1024
  inr : ∀ e ∈ l, 0 ≤ e.to ∧ e.to.toNat < d.length
  len : l.length ≤ 1099511627776
noncomputable def g35 : List D → Option D := encSpec (fun x : List Int × Int × List Edge => [.list (x.2.2.map eD), .clo 36 [.ref [i64 x.2.1], .ref [ints x.1]]]) (fun x => DomIdx x.1 x.2.1 x.2.2) (fun x => i64 (idx (closer x.1 x.2.1) x.2.2))
theorem g35_eq {d : List Int} {a : Int} {l : List Edge} (h : DomIdx d a l) : g35 [.list (l.map eD), .clo 36 [.ref [.int .i64 a], .ref [.list (d.map i64)]]] = some (.int .i64 (idx (closer d a) l)) :=
  encSpec_eq (x := (d, a, l)) h fun y hy => by
    obtain ⟨y1, y2, y3⟩ := y
    simp only [List.cons.injEq, and_true, D.clo.injEq, D.ref.injEq, true_and, D.list.injEq] at hy
    have h1 : y3 = l := List.map_inj_right eD_inj2 |>.1 hy.1
    have h2 : y2 = a := i64_inj _ _ hy.2.1
    have h3 : y1 = d := List.map_inj_right i64_inj |>.1 hy.2.2
    rw [h1, h2, h3]
theorem f35_all : PureOK Try.prog 35 true g35 := pure_union fun ds r hd => by
  obtain ⟨⟨d, a, l⟩, rfl, h, rfl⟩ := encSpec_some hd
  exact ⟨_, f35d_ok (f36_ok h.a0 h.a1 h.lo) (fun x hx => g36_eq x hx), gIdxD_eq eD_inj2 h.len h.inr⟩
noncomputable def Γ16 : FuncId → Option CSpec := fun f => if f = 33 then some (.pure true g33) else if f = 29 then some (.pure false g29) else if f = 34 then some (.pure false g34) else if f = 35 then some (.pure true g35) else none
theorem Γ16_ok : ∀ f s, Γ16 f = some s → SpecOK Try.prog f s := by
  intro f s h
  unfold Γ16 at h
  split at h
  · rename_i hf; cases h; subst hf; exact f33_ok
  split at h
  · rename_i hf; cases h; subst hf; exact f29_ok
  split at h
  · rename_i hf; cases h; subst hf; exact f34_ok
  split at h
  · rename_i hf; cases h; subst hf; exact f35_all
  · cases h
noncomputable def chainR (g : Graph) (a b : Int) : D := match chain g a b with
  | some l => .tup [ints l, .bool true]
  | none => .tup [.list [], .bool false]
noncomputable def g16 : List D → Option D := encSpec (fun x : Graph × Int × Int => [gD x.1, i64 x.2.1, i64 x.2.2]) (fun x => Sized x.1) (fun x => chainR x.1 x.2.1 x.2.2)
theorem g16_eq {g : Graph} {a b : Int} (h : Sized g) : g16 [.agg [.list (g.nodes.map .str), .list (g.edges.map eD)], .int .i64 a, .int .i64 b] = some (chainR g a b) :=
  encSpec_eq (x := (g, a, b)) h fun y hy => by
    obtain ⟨y1, y2, y3⟩ := y
    obtain ⟨rfl, rfl, rfl⟩ := gII_inj hy
    rfl
theorem f16_ok : PureOK Try.prog 16 false g16 := by
  have hΓ := Γ16_ok
  refine pure_enc (n := 53) (rs := [.tmp 6, .tmp 7]) Try.func16 (by kernel_rfl) rfl (by kernel_rfl) (by kernel_rfl) ?_
  rintro ⟨g, a, b⟩ hs
  have ea := g33_eq (n := a) hs
  have eb := g33_eq (n := b) hs
  refine ⟨fun h => (by cases h), fun c hz0 => ?_⟩
  simp only [start, go_sem, emptyH, List.replicate_succ, List.replicate_zero]
  cases hv : valid g a with
  | false =>
    rw [hv] at ea
    repeat (first
      | refine awp_seq ?_ | refine awp_block ?_ | refine awp_ret ?_ | refine awp_skip ?_ | refine awp_exit ?_ | refine awp_label ?_
      | refine then_normal ?_ | refine then_ret ?_ | refine then_exit ?_ | refine block_normal ?_ | refine block_ret ?_ | refine block_exit ?_ | refine block_out rfl ?_
      | (apply awp_reg hΓ; (focus (simp (disch := omega) only [go_sem, decide_eq_true, decide_eq_false, if_pos, if_neg, wrap_in, maxLen, Γ16, ea]; with_reducible rfl)))
      | (apply awp_regf mixedOK hΓ (by kernel_rfl); (focus (simp (disch := omega) only [go_sem, decide_eq_true, decide_eq_false, if_pos, if_neg, wrap_in, maxLen, Γ16, ea]; with_reducible rfl)); (focus (simp only [go_sem]; with_reducible rfl)))
      | (apply awp_regt mixedOK hΓ rfl; (focus kernel_rfl); (focus (simp (disch := omega) only [go_sem, decide_eq_true, decide_eq_false, if_pos, if_neg, wrap_in, maxLen, Γ16, ea]; with_reducible rfl)); (focus (simp only [go_sem]; with_reducible rfl)); (focus (simp (disch := omega) only [go_sem, decide_eq_true, decide_eq_false, if_pos, if_neg, wrap_in, maxLen, Γ16, ea]; with_reducible rfl)))
      | (apply awp_cond_t; (focus (simp (disch := omega) only [go_sem, decide_eq_true, decide_eq_false, if_pos, if_neg, wrap_in, maxLen, Γ16, ea]; done))) | (apply awp_cond_f; (focus (simp (disch := omega) only [go_sem, decide_eq_true, decide_eq_false, if_pos, if_neg, wrap_in, maxLen, Γ16, ea]; done)))
      | (apply ret_e; (focus (simp (disch := omega) only [go_sem, decide_eq_true, decide_eq_false, if_pos, if_neg, wrap_in, maxLen, Γ16, ea]; with_reducible rfl)); (focus (simp (disch := omega) only [go_sem, decide_eq_true, decide_eq_false, if_pos, if_neg, wrap_in, maxLen, Γ16, ea]; with_reducible rfl))) | (apply end_e; (focus (simp (disch := omega) only [go_sem, decide_eq_true, decide_eq_false, if_pos, if_neg, wrap_in, maxLen, Γ16, ea]; with_reducible rfl)); (focus (simp (disch := omega) only [go_sem, decide_eq_true, decide_eq_false, if_pos, if_neg, wrap_in, maxLen, Γ16, ea]; with_reducible rfl)))
      | rfl)
    simp [chainR, chain, hv]
  | true =>
    rw [hv] at ea
    obtain ⟨hfit, ha0, ha1⟩ := valid_of hv
    cases hw : valid g b with
    | false =>
      rw [hw] at eb
      repeat (first
        | refine awp_seq ?_ | refine awp_block ?_ | refine awp_ret ?_ | refine awp_skip ?_ | refine awp_exit ?_ | refine awp_label ?_
        | refine then_normal ?_ | refine then_ret ?_ | refine then_exit ?_ | refine block_normal ?_ | refine block_ret ?_ | refine block_exit ?_ | refine block_out rfl ?_
        | (apply awp_reg hΓ; (focus (simp (disch := omega) only [go_sem, decide_eq_true, decide_eq_false, if_pos, if_neg, wrap_in, maxLen, Γ16, ea, eb]; with_reducible rfl)))
        | (apply awp_regf mixedOK hΓ (by kernel_rfl); (focus (simp (disch := omega) only [go_sem, decide_eq_true, decide_eq_false, if_pos, if_neg, wrap_in, maxLen, Γ16, ea, eb]; with_reducible rfl)); (focus (simp only [go_sem]; with_reducible rfl)))
        | (apply awp_regt mixedOK hΓ rfl; (focus kernel_rfl); (focus (simp (disch := omega) only [go_sem, decide_eq_true, decide_eq_false, if_pos, if_neg, wrap_in, maxLen, Γ16, ea, eb]; with_reducible rfl)); (focus (simp only [go_sem]; with_reducible rfl)); (focus (simp (disch := omega) only [go_sem, decide_eq_true, decide_eq_false, if_pos, if_neg, wrap_in, maxLen, Γ16, ea, eb]; with_reducible rfl)))
        | (apply awp_cond_t; (focus (simp (disch := omega) only [go_sem, decide_eq_true, decide_eq_false, if_pos, if_neg, wrap_in, maxLen, Γ16, ea, eb]; done))) | (apply awp_cond_f; (focus (simp (disch := omega) only [go_sem, decide_eq_true, decide_eq_false, if_pos, if_neg, wrap_in, maxLen, Γ16, ea, eb]; done)))
        | (apply ret_e; (focus (simp (disch := omega) only [go_sem, decide_eq_true, decide_eq_false, if_pos, if_neg, wrap_in, maxLen, Γ16, ea, eb]; with_reducible rfl)); (focus (simp (disch := omega) only [go_sem, decide_eq_true, decide_eq_false, if_pos, if_neg, wrap_in, maxLen, Γ16, ea, eb]; with_reducible rfl))) | (apply end_e; (focus (simp (disch := omega) only [go_sem, decide_eq_true, decide_eq_false, if_pos, if_neg, wrap_in, maxLen, Γ16, ea, eb]; with_reducible rfl)); (focus (simp (disch := omega) only [go_sem, decide_eq_true, decide_eq_false, if_pos, if_neg, wrap_in, maxLen, Γ16, ea, eb]; with_reducible rfl)))
        | rfl)
      simp [chainR, chain, hw]
    | true =>
      rw [hw] at eb
      obtain ⟨_, hb0, hb1⟩ := valid_of hw
      have hn := hfit.nodes
      have he := hfit.edges
      have e29 := g29_eq (back := true) hfit
      have e34 := g34_eq (w := -1) (nbs_ok hfit true) hb0 (by rw [nbs_len]; exact hb1) (by omega)
      rw [farAll_back hfit.inr hb0] at e34
      have hlen := distTo_len g b (-1)
      have hov : ov (distTo g b (-1)) a = dist g (-1) a b := distTo_ov ha0 ha1
      have hal : a.toNat < (distTo g b (-1)).length := by omega
      have hget := ov_get hal
      rw [hov] at hget
      have hdl := (dist_lt hfit (w := -1) (b := b) ha0 ha1).2
      by_cases hd : dist g (-1) a b < 0
      · repeat (first
        | refine awp_seq ?_ | refine awp_block ?_ | refine awp_ret ?_ | refine awp_skip ?_ | refine awp_exit ?_ | refine awp_label ?_
        | refine then_normal ?_ | refine then_ret ?_ | refine then_exit ?_ | refine block_normal ?_ | refine block_ret ?_ | refine block_exit ?_ | refine block_out rfl ?_
        | (apply awp_reg hΓ; (focus (simp (disch := omega) only [go_sem, decide_eq_true, decide_eq_false, if_pos, if_neg, wrap_in, maxLen, Γ16, ea, eb, e29, e34, hget]; with_reducible rfl)))
        | (apply awp_regf mixedOK hΓ (by kernel_rfl); (focus (simp (disch := omega) only [go_sem, decide_eq_true, decide_eq_false, if_pos, if_neg, wrap_in, maxLen, Γ16, ea, eb, e29, e34, hget]; with_reducible rfl)); (focus (simp only [go_sem]; with_reducible rfl)))
        | (apply awp_regt mixedOK hΓ rfl; (focus kernel_rfl); (focus (simp (disch := omega) only [go_sem, decide_eq_true, decide_eq_false, if_pos, if_neg, wrap_in, maxLen, Γ16, ea, eb, e29, e34, hget]; with_reducible rfl)); (focus (simp only [go_sem]; with_reducible rfl)); (focus (simp (disch := omega) only [go_sem, decide_eq_true, decide_eq_false, if_pos, if_neg, wrap_in, maxLen, Γ16, ea, eb, e29, e34, hget]; with_reducible rfl)))
        | (apply awp_cond_t; (focus (simp (disch := omega) only [go_sem, decide_eq_true, decide_eq_false, if_pos, if_neg, wrap_in, maxLen, Γ16, ea, eb, e29, e34, hget]; done))) | (apply awp_cond_f; (focus (simp (disch := omega) only [go_sem, decide_eq_true, decide_eq_false, if_pos, if_neg, wrap_in, maxLen, Γ16, ea, eb, e29, e34, hget]; done)))
        | (apply ret_e; (focus (simp (disch := omega) only [go_sem, decide_eq_true, decide_eq_false, if_pos, if_neg, wrap_in, maxLen, Γ16, ea, eb, e29, e34, hget]; with_reducible rfl)); (focus (simp (disch := omega) only [go_sem, decide_eq_true, decide_eq_false, if_pos, if_neg, wrap_in, maxLen, Γ16, ea, eb, e29, e34, hget]; with_reducible rfl))) | (apply end_e; (focus (simp (disch := omega) only [go_sem, decide_eq_true, decide_eq_false, if_pos, if_neg, wrap_in, maxLen, Γ16, ea, eb, e29, e34, hget]; with_reducible rfl)); (focus (simp (disch := omega) only [go_sem, decide_eq_true, decide_eq_false, if_pos, if_neg, wrap_in, maxLen, Γ16, ea, eb, e29, e34, hget]; with_reducible rfl)))
        | rfl)
        have hd' : ¬ 0 ≤ dist g (-1) a b := by omega
        simp [chainR, chain, hd']
      · repeat (first
        | refine awp_seq ?_ | refine awp_block ?_ | refine awp_ret ?_ | refine awp_skip ?_ | refine awp_exit ?_ | refine awp_label ?_
        | refine then_normal ?_ | refine then_ret ?_ | refine then_exit ?_ | refine block_normal ?_ | refine block_ret ?_ | refine block_exit ?_ | refine block_out rfl ?_
        | (apply awp_reg hΓ; (focus (simp (disch := omega) only [go_sem, decide_eq_true, decide_eq_false, if_pos, if_neg, wrap_in, maxLen, Γ16, ea, eb, e29, e34, hget]; with_reducible rfl)))
        | (apply awp_regf mixedOK hΓ (by kernel_rfl); (focus (simp (disch := omega) only [go_sem, decide_eq_true, decide_eq_false, if_pos, if_neg, wrap_in, maxLen, Γ16, ea, eb, e29, e34, hget]; with_reducible rfl)); (focus (simp only [go_sem]; with_reducible rfl)))
        | (apply awp_regt mixedOK hΓ rfl; (focus kernel_rfl); (focus (simp (disch := omega) only [go_sem, decide_eq_true, decide_eq_false, if_pos, if_neg, wrap_in, maxLen, Γ16, ea, eb, e29, e34, hget]; with_reducible rfl)); (focus (simp only [go_sem]; with_reducible rfl)); (focus (simp (disch := omega) only [go_sem, decide_eq_true, decide_eq_false, if_pos, if_neg, wrap_in, maxLen, Γ16, ea, eb, e29, e34, hget]; with_reducible rfl)))
        | (apply awp_cond_t; (focus (simp (disch := omega) only [go_sem, decide_eq_true, decide_eq_false, if_pos, if_neg, wrap_in, maxLen, Γ16, ea, eb, e29, e34, hget]; done))) | (apply awp_cond_f; (focus (simp (disch := omega) only [go_sem, decide_eq_true, decide_eq_false, if_pos, if_neg, wrap_in, maxLen, Γ16, ea, eb, e29, e34, hget]; done)))
        | (apply ret_e; (focus (simp (disch := omega) only [go_sem, decide_eq_true, decide_eq_false, if_pos, if_neg, wrap_in, maxLen, Γ16, ea, eb, e29, e34, hget]; with_reducible rfl)); (focus (simp (disch := omega) only [go_sem, decide_eq_true, decide_eq_false, if_pos, if_neg, wrap_in, maxLen, Γ16, ea, eb, e29, e34, hget]; with_reducible rfl))) | (apply end_e; (focus (simp (disch := omega) only [go_sem, decide_eq_true, decide_eq_false, if_pos, if_neg, wrap_in, maxLen, Γ16, ea, eb, e29, e34, hget]; with_reducible rfl)); (focus (simp (disch := omega) only [go_sem, decide_eq_true, decide_eq_false, if_pos, if_neg, wrap_in, maxLen, Γ16, ea, eb, e29, e34, hget]; with_reducible rfl)))
        | rfl)
        have hdi := distTo_in hfit (b := b) (w := -1)
        have htot : chainR g a b = .tup [ints (chainD g (distTo g b (-1)) (dist g (-1) a b).toNat a), .bool true] := by
          have hd' : 0 ≤ dist g (-1) a b := by omega
          simp [chainR, chain, hv, hw, hd']
        rw [htot]
        generalize htt : chainD g (distTo g b (-1)) (dist g (-1) a b).toNat a = total at htot
        refine awp_loop_atN (X := Nat × Int × List Int) (fun x => (.junk :: .junk :: .junk :: .ptr 0 0 :: .junk :: .junk :: .junk :: .junk :: .ptr 17 0 :: .row 28 x.2.2.length :: .ptr x.1 0 :: .junk :: .junk :: .junk :: .junk :: .junk :: .junk :: .junk :: .junk :: .junk :: .junk :: .junk :: .junk :: .junk :: .junk :: .junk :: .junk :: .junk :: .junk :: .junk :: .junk :: .junk :: .junk :: .junk :: .junk :: .junk :: .junk :: .junk :: .junk :: .junk :: .junk :: .junk :: .junk :: .junk :: .junk :: .junk :: .junk :: .junk :: .junk :: .junk :: .junk :: .junk :: .junk :: []))
          (fun x => [(0, .box [.data (.list (g.nodes.map .str)), .data (.list (g.edges.map eD))]), (17, .box [.data (ints (distTo g b (-1)))]), (28, .row 3 1 (x.2.2.map i64)), (x.1, .box [.data (i64 x.2.1)])]) (fun x => 100 + x.1)
          (fun x => 26 ≤ x.1 ∧ x.1 ≠ 28 ∧ 0 ≤ x.2.1 ∧ x.2.1 < g.nodes.length ∧ 0 ≤ dist g (-1) x.2.1 b ∧ x.2.2 ++ chainD g (distTo g b (-1)) (dist g (-1) x.2.1 b).toNat x.2.1 = total ∧ x.2.2.length + (dist g (-1) x.2.1 b).toNat ≤ 1024) (fun x => (dist g (-1) x.2.1 b).toNat)
          (26, a, []) ⟨by omega, by omega, ha0, ha1, by dsimp only; omega, htt, by dsimp only; simp; omega⟩ ((Weak.nilrow (i := 9) 3 (sz := 1) (by omega) rfl).trans (Weak.of (by omega) (by simp [ConvL, Conv, ints]) (by simp (disch := omega) only [TabSub, look, if_pos, if_neg, Obj.refsOK, refsOKs, AV.refsOK, decide_eq_true_eq, Bool.and_true, Bool.and_self]; (repeat' apply And.intro) <;> first | trivial | omega | rfl | (simp; done)) (by simp (disch := omega) only [refsOKs, AV.refsOK, Bool.and_true, Bool.and_self, decide_eq_true_eq, Bool.true_and, Bool.and_eq_true]; try omega))) ?_
        rintro ⟨nm, at', acc⟩ ⟨hm1, hm2, h0, h1, hd0, hacc, hal2⟩
        dsimp only at hm1 hm2 h0 h1 hd0 hacc hal2
        have hov2 : ov (distTo g b (-1)) at' = dist g (-1) at' b := distTo_ov h0 h1
        have hget2 := ov_get (out := distTo g b (-1)) (v := at') (by omega)
        rw [hov2] at hget2
        repeat (first
          | refine awp_seq ?_ | refine awp_block ?_ | refine awp_ret ?_ | refine awp_skip ?_ | refine awp_exit ?_ | refine awp_label ?_
          | refine then_normal ?_ | refine then_ret ?_ | refine then_exit ?_ | refine block_normal ?_ | refine block_ret ?_ | refine block_exit ?_ | refine block_out rfl ?_
          | (apply awp_reg hΓ; (focus (simp (disch := omega) only [go_sem, decide_eq_true, decide_eq_false, if_pos, if_neg, wrap_in, maxLen, ints, hget2]; with_reducible rfl)))
          | (apply awp_regf mixedOK hΓ (by kernel_rfl); (focus (simp (disch := omega) only [go_sem, decide_eq_true, decide_eq_false, if_pos, if_neg, wrap_in, maxLen, ints, hget2]; with_reducible rfl)); (focus (simp only [go_sem]; with_reducible rfl)))
          | (apply awp_regt mixedOK hΓ rfl; (focus kernel_rfl); (focus (simp (disch := omega) only [go_sem, decide_eq_true, decide_eq_false, if_pos, if_neg, wrap_in, maxLen, ints, hget2]; with_reducible rfl)); (focus (simp only [go_sem]; with_reducible rfl)); (focus (simp (disch := omega) only [go_sem, decide_eq_true, decide_eq_false, if_pos, if_neg, wrap_in, maxLen, ints, hget2]; with_reducible rfl)))
          | (apply awp_cond_t; (focus (simp (disch := omega) only [go_sem, decide_eq_true, decide_eq_false, if_pos, if_neg, wrap_in, maxLen, ints, hget2]; done))) | (apply awp_cond_f; (focus (simp (disch := omega) only [go_sem, decide_eq_true, decide_eq_false, if_pos, if_neg, wrap_in, maxLen, ints, hget2]; done)))
          | (apply ret_e; (focus (simp (disch := omega) only [go_sem, decide_eq_true, decide_eq_false, if_pos, if_neg, wrap_in, maxLen, ints, hget2]; with_reducible rfl)); (focus (simp (disch := omega) only [go_sem, decide_eq_true, decide_eq_false, if_pos, if_neg, wrap_in, maxLen, ints, hget2]; with_reducible rfl))) | (apply end_e; (focus (simp (disch := omega) only [go_sem, decide_eq_true, decide_eq_false, if_pos, if_neg, wrap_in, maxLen, ints, hget2]; with_reducible rfl)); (focus (simp (disch := omega) only [go_sem, decide_eq_true, decide_eq_false, if_pos, if_neg, wrap_in, maxLen, ints, hget2]; with_reducible rfl)))
          | rfl)
        refine awp_cond (by simp (disch := omega) only [go_sem]; rfl) (fun hc => ?_) (fun hc => ?_)
        · have hpos : 0 < dist g (-1) at' b := by simpa using hc
          obtain ⟨j, x, ej, c1, ⟨c2, hx⟩, c3, c4, c5, c6, c7, c8⟩ := chain_next' hfit h0 h1 hpos
          have e35 := g35_eq (d := distTo g b (-1)) (a := at') (l := g.edges) ⟨h0, by omega, hdi, fun e he => by obtain ⟨_, _, r3, r4⟩ := hfit.inr e he; omega, by omega⟩
          rw [c6] at hacc
          rw [ej] at e35
          repeat (first
            | refine awp_seq ?_ | refine awp_block ?_ | refine awp_ret ?_ | refine awp_skip ?_ | refine awp_exit ?_ | refine awp_label ?_
            | refine then_normal ?_ | refine then_ret ?_ | refine then_exit ?_ | refine block_normal ?_ | refine block_ret ?_ | refine block_exit ?_ | refine block_out rfl ?_
            | (apply awp_reg hΓ; (focus (simp (disch := omega) only [go_sem, decide_eq_true, decide_eq_false, if_pos, if_neg, wrap_in, maxLen, Γ16, e35, ints, hget2, hx]; with_reducible rfl)))
            | (apply awp_regf mixedOK hΓ (by kernel_rfl); (focus (simp (disch := omega) only [go_sem, decide_eq_true, decide_eq_false, if_pos, if_neg, wrap_in, maxLen, Γ16, e35, ints, hget2, hx]; with_reducible rfl)); (focus (simp only [go_sem]; with_reducible rfl)))
            | (apply awp_regt mixedOK hΓ rfl; (focus kernel_rfl); (focus (simp (disch := omega) only [go_sem, decide_eq_true, decide_eq_false, if_pos, if_neg, wrap_in, maxLen, Γ16, e35, ints, hget2, hx]; with_reducible rfl)); (focus (simp only [go_sem]; with_reducible rfl)); (focus (simp (disch := omega) only [go_sem, decide_eq_true, decide_eq_false, if_pos, if_neg, wrap_in, maxLen, Γ16, e35, ints, hget2, hx]; with_reducible rfl)))
            | (apply awp_cond_t; (focus (simp (disch := omega) only [go_sem, decide_eq_true, decide_eq_false, if_pos, if_neg, wrap_in, maxLen, Γ16, e35, ints, hget2, hx]; done))) | (apply awp_cond_f; (focus (simp (disch := omega) only [go_sem, decide_eq_true, decide_eq_false, if_pos, if_neg, wrap_in, maxLen, Γ16, e35, ints, hget2, hx]; done)))
            | (apply ret_e; (focus (simp (disch := omega) only [go_sem, decide_eq_true, decide_eq_false, if_pos, if_neg, wrap_in, maxLen, Γ16, e35, ints, hget2, hx]; with_reducible rfl)); (focus (simp (disch := omega) only [go_sem, decide_eq_true, decide_eq_false, if_pos, if_neg, wrap_in, maxLen, Γ16, e35, ints, hget2, hx]; with_reducible rfl))) | (apply end_e; (focus (simp (disch := omega) only [go_sem, decide_eq_true, decide_eq_false, if_pos, if_neg, wrap_in, maxLen, Γ16, e35, ints, hget2, hx]; with_reducible rfl)); (focus (simp (disch := omega) only [go_sem, decide_eq_true, decide_eq_false, if_pos, if_neg, wrap_in, maxLen, Γ16, e35, ints, hget2, hx]; with_reducible rfl)))
            | rfl)
          refine ⟨(100 + nm + 1 + 1 + 1 + 1 + 1 + 1 + 1 + 1 + 1 + 1 + 1 + 1 + 1 + 1 + 1 + 1 + 1 + 1 + 1 + 1 + 1 + 1 + 1, x.to, acc ++ [j]), ⟨by dsimp only; omega, by dsimp only; omega, c3, c4, by dsimp only; omega, by dsimp only; rw [List.append_assoc]; exact hacc, by dsimp only; simp; omega⟩, by dsimp only; omega, Weak.of (by omega) (by simp [ConvL, Conv, ints]) (by simp (disch := omega) only [TabSub, look, if_pos, if_neg, Obj.refsOK, refsOKs, AV.refsOK, decide_eq_true_eq, Bool.and_true, Bool.and_self]; (repeat' apply And.intro) <;> first | trivial | omega | rfl | (simp; done)) (by simp (disch := omega) only [refsOKs, AV.refsOK, Bool.and_true, Bool.and_self, decide_eq_true_eq, Bool.true_and, Bool.and_eq_true]; try omega)⟩
        · have hz : ¬ 0 < dist g (-1) at' b := by simpa using hc
          have hz' : (dist g (-1) at' b).toNat = 0 := by omega
          rw [hz'] at hacc
          simp only [chainD, List.append_nil] at hacc
          repeat (first
            | refine awp_seq ?_ | refine awp_block ?_ | refine awp_ret ?_ | refine awp_skip ?_ | refine awp_exit ?_ | refine awp_label ?_
            | refine then_normal ?_ | refine then_ret ?_ | refine then_exit ?_ | refine block_normal ?_ | refine block_ret ?_ | refine block_exit ?_ | refine block_out rfl ?_
            | (apply awp_reg hΓ; (focus (simp (disch := omega) only [go_sem, decide_eq_true, decide_eq_false, if_pos, if_neg, wrap_in, maxLen]; with_reducible rfl)))
            | (apply awp_regf mixedOK hΓ (by kernel_rfl); (focus (simp (disch := omega) only [go_sem, decide_eq_true, decide_eq_false, if_pos, if_neg, wrap_in, maxLen]; with_reducible rfl)); (focus (simp only [go_sem]; with_reducible rfl)))
            | (apply awp_regt mixedOK hΓ rfl; (focus kernel_rfl); (focus (simp (disch := omega) only [go_sem, decide_eq_true, decide_eq_false, if_pos, if_neg, wrap_in, maxLen]; with_reducible rfl)); (focus (simp only [go_sem]; with_reducible rfl)); (focus (simp (disch := omega) only [go_sem, decide_eq_true, decide_eq_false, if_pos, if_neg, wrap_in, maxLen]; with_reducible rfl)))
            | (apply awp_cond_t; (focus (simp (disch := omega) only [go_sem, decide_eq_true, decide_eq_false, if_pos, if_neg, wrap_in, maxLen]; done))) | (apply awp_cond_f; (focus (simp (disch := omega) only [go_sem, decide_eq_true, decide_eq_false, if_pos, if_neg, wrap_in, maxLen]; done)))
            | (apply ret_e; (focus (simp (disch := omega) only [go_sem, decide_eq_true, decide_eq_false, if_pos, if_neg, wrap_in, maxLen]; with_reducible rfl)); (focus (simp (disch := omega) only [go_sem, decide_eq_true, decide_eq_false, if_pos, if_neg, wrap_in, maxLen]; with_reducible rfl))) | (apply end_e; (focus (simp (disch := omega) only [go_sem, decide_eq_true, decide_eq_false, if_pos, if_neg, wrap_in, maxLen]; with_reducible rfl)); (focus (simp (disch := omega) only [go_sem, decide_eq_true, decide_eq_false, if_pos, if_neg, wrap_in, maxLen]; with_reducible rfl)))
            | rfl)
          rw [hacc]
end Go.Ab
