/-
  One text of the proof (own work): contracts of functions of the program, by the abstract machine.
-/
import Derived.Test.YtpecnbkfahekdaaA27
import Derived.Test.YtpecnbkfahekdaaA16
import Derived.Test.YtpecnbkfahekdaaA30
import Derived.Test.YtpecnbkfahekdaaAbEval
import Derived.Test.YtpecnbkfahekdaaAw
set_option linter.unusedVariables false
set_option linter.unusedSimpArgs false
namespace Go.Ab
open Go Go.RowKit Go.Proofs
set_option maxRecDepth 4000
set_option maxHeartbeats 40000000

/-! ### The closure of GraphSorts -/
def notUp (l d : List Int) (e : Edge) : Bool := decide (ov l e.fr ≥ ov l e.to) || decide (ov d e.fr ≥ ov d e.to)
def Dom24 (l d : List Int) (e : Edge) : Prop := 0 ≤ e.fr ∧ 0 ≤ e.to ∧ e.fr.toNat < l.length ∧ e.to.toNat < l.length ∧ e.fr.toNat < d.length ∧ e.to.toNat < d.length
noncomputable def g24 (l d : List Int) : List D → Option D := encSpec (fun e : Edge => [eD e, .ref [ints l], .ref [ints d]]) (fun e => Dom24 l d e) (fun e => .bool (notUp l d e))
theorem g24_eq {l d : List Int} (e : Edge) (h : Dom24 l d e) : g24 l d (eD e :: [.ref [.list (l.map i64)], .ref [.list (d.map i64)]]) = some (.bool (notUp l d e)) := encSpec_eq (x := e) h fun y hy => by
  simp only [List.cons.injEq, and_true] at hy
  rw [eD_inj hy]
theorem f24_ok {l d : List Int} : PureOK Try.prog 24 true (g24 l d) := by
  have hΓ := Γ1_ok
  refine pure_enc (n := 29) (rs := [.tmp 4]) Try.func24 (by kernel_rfl) rfl (by kernel_rfl) (by kernel_rfl) ?_
  rintro e ⟨h1, h2, h3, h4, h5, h6⟩
  refine ⟨fun _ => .bool _, fun c hz0 => ?_⟩
  have v1 := ov_get h3
  have v2 := ov_get h4
  have v3 := ov_get h5
  have v4 := ov_get h6
  simp only [start, go_sem, emptyH, List.replicate_succ, List.replicate_zero]
  by_cases k1 : ov l e.fr ≥ ov l e.to
  · repeat (first
    | refine awp_seq ?_ | refine awp_block ?_ | refine awp_ret ?_ | refine awp_skip ?_ | refine awp_exit ?_ | refine awp_label ?_
    | refine then_normal ?_ | refine then_ret ?_ | refine then_exit ?_ | refine block_normal ?_ | refine block_ret ?_ | refine block_exit ?_ | refine block_out rfl ?_
    | (apply awp_reg hΓ; (focus (simp (disch := omega) only [go_sem, ↓reduceIte, decide_eq_true, decide_eq_false, if_pos, if_neg, wrap_in, maxLen, v1, v2, v3, v4, ints]; with_reducible rfl)))
    | (apply awp_regf mixedOK hΓ (by kernel_rfl); (focus (simp (disch := omega) only [go_sem, ↓reduceIte, decide_eq_true, decide_eq_false, if_pos, if_neg, wrap_in, maxLen, v1, v2, v3, v4, ints]; with_reducible rfl)); (focus (simp only [go_sem]; with_reducible rfl)))
    | (apply awp_regt mixedOK hΓ rfl; (focus kernel_rfl); (focus (simp (disch := omega) only [go_sem, ↓reduceIte, decide_eq_true, decide_eq_false, if_pos, if_neg, wrap_in, maxLen, v1, v2, v3, v4, ints]; with_reducible rfl)); (focus (simp only [go_sem]; with_reducible rfl)); (focus (simp (disch := omega) only [go_sem, ↓reduceIte, decide_eq_true, decide_eq_false, if_pos, if_neg, wrap_in, maxLen, v1, v2, v3, v4, ints]; with_reducible rfl)))
    | (apply awp_cond_t; (focus (simp (disch := omega) only [go_sem, ↓reduceIte, decide_eq_true, decide_eq_false, if_pos, if_neg, wrap_in, maxLen, v1, v2, v3, v4, ints]; done))) | (apply awp_cond_f; (focus (simp (disch := omega) only [go_sem, ↓reduceIte, decide_eq_true, decide_eq_false, if_pos, if_neg, wrap_in, maxLen, v1, v2, v3, v4, ints]; done)))
    | (apply ret_e; (focus (simp (disch := omega) only [go_sem, ↓reduceIte, decide_eq_true, decide_eq_false, if_pos, if_neg, wrap_in, maxLen, v1, v2, v3, v4, ints]; with_reducible rfl)); (focus (simp (disch := omega) only [go_sem, ↓reduceIte, decide_eq_true, decide_eq_false, if_pos, if_neg, wrap_in, maxLen, v1, v2, v3, v4, ints]; with_reducible rfl))) | (apply end_e; (focus (simp (disch := omega) only [go_sem, ↓reduceIte, decide_eq_true, decide_eq_false, if_pos, if_neg, wrap_in, maxLen, v1, v2, v3, v4, ints]; with_reducible rfl)); (focus (simp (disch := omega) only [go_sem, ↓reduceIte, decide_eq_true, decide_eq_false, if_pos, if_neg, wrap_in, maxLen, v1, v2, v3, v4, ints]; with_reducible rfl)))
    | rfl)
    simp [notUp, k1]
  · repeat (first
    | refine awp_seq ?_ | refine awp_block ?_ | refine awp_ret ?_ | refine awp_skip ?_ | refine awp_exit ?_ | refine awp_label ?_
    | refine then_normal ?_ | refine then_ret ?_ | refine then_exit ?_ | refine block_normal ?_ | refine block_ret ?_ | refine block_exit ?_ | refine block_out rfl ?_
    | (apply awp_reg hΓ; (focus (simp (disch := omega) only [go_sem, ↓reduceIte, decide_eq_true, decide_eq_false, if_pos, if_neg, wrap_in, maxLen, v1, v2, v3, v4, ints]; with_reducible rfl)))
    | (apply awp_regf mixedOK hΓ (by kernel_rfl); (focus (simp (disch := omega) only [go_sem, ↓reduceIte, decide_eq_true, decide_eq_false, if_pos, if_neg, wrap_in, maxLen, v1, v2, v3, v4, ints]; with_reducible rfl)); (focus (simp only [go_sem]; with_reducible rfl)))
    | (apply awp_regt mixedOK hΓ rfl; (focus kernel_rfl); (focus (simp (disch := omega) only [go_sem, ↓reduceIte, decide_eq_true, decide_eq_false, if_pos, if_neg, wrap_in, maxLen, v1, v2, v3, v4, ints]; with_reducible rfl)); (focus (simp only [go_sem]; with_reducible rfl)); (focus (simp (disch := omega) only [go_sem, ↓reduceIte, decide_eq_true, decide_eq_false, if_pos, if_neg, wrap_in, maxLen, v1, v2, v3, v4, ints]; with_reducible rfl)))
    | (apply awp_cond_t; (focus (simp (disch := omega) only [go_sem, ↓reduceIte, decide_eq_true, decide_eq_false, if_pos, if_neg, wrap_in, maxLen, v1, v2, v3, v4, ints]; done))) | (apply awp_cond_f; (focus (simp (disch := omega) only [go_sem, ↓reduceIte, decide_eq_true, decide_eq_false, if_pos, if_neg, wrap_in, maxLen, v1, v2, v3, v4, ints]; done)))
    | (apply ret_e; (focus (simp (disch := omega) only [go_sem, ↓reduceIte, decide_eq_true, decide_eq_false, if_pos, if_neg, wrap_in, maxLen, v1, v2, v3, v4, ints]; with_reducible rfl)); (focus (simp (disch := omega) only [go_sem, ↓reduceIte, decide_eq_true, decide_eq_false, if_pos, if_neg, wrap_in, maxLen, v1, v2, v3, v4, ints]; with_reducible rfl))) | (apply end_e; (focus (simp (disch := omega) only [go_sem, ↓reduceIte, decide_eq_true, decide_eq_false, if_pos, if_neg, wrap_in, maxLen, v1, v2, v3, v4, ints]; with_reducible rfl)); (focus (simp (disch := omega) only [go_sem, ↓reduceIte, decide_eq_true, decide_eq_false, if_pos, if_neg, wrap_in, maxLen, v1, v2, v3, v4, ints]; with_reducible rfl)))
    | rfl)
    simp [notUp, k1]
theorem ov_tab {n : Nat} {f : Nat → Int} {v : Int} (h0 : 0 ≤ v) (h1 : v < n) : ov (tab n f) v = f v.toNat := by
  have h : v.toNat < (tab n f).length := by rw [tab_len]; omega
  rw [← ov_get h, tab_get h]
noncomputable def Γ6 (l d : List Int) : FuncId → Option CSpec := fun f => if f = 9 then some (.pure false g9') else if f = 10 then some (.pure true g10) else if f = 20 then some (.pure true g20) else if f = 22 then some (.pure false g25) else if f = 21 then some (.pure true g21) else if f = 11 then some (.pure false g12) else if f = 13 then some (.pure false g13) else if f = 23 then some (.pure true (gAnyD eD (Dom24 l d) 24 [.ref [.list (l.map i64)], .ref [.list (d.map i64)]] (notUp l d))) else none
theorem Γ6_ok (l d : List Int) : ∀ f s, Γ6 l d f = some s → SpecOK Try.prog f s := by
  intro f s h
  unfold Γ6 at h
  split at h
  · rename_i hf; cases h; subst hf; exact f9_ok'
  split at h
  · rename_i hf; cases h; subst hf; exact f10_ok
  split at h
  · rename_i hf; cases h; subst hf; exact f20_ok
  split at h
  · rename_i hf; cases h; subst hf; exact f22_ok
  split at h
  · rename_i hf; cases h; subst hf; exact f21_ok
  split at h
  · rename_i hf; cases h; subst hf; exact f11_ok
  split at h
  · rename_i hf; cases h; subst hf; exact f13_ok
  split at h
  · rename_i hf; cases h; subst hf; exact f23d_ok f24_ok (fun x hx => g24_eq x hx)
  · cases h
theorem g10_eq6 {g : Graph} (h : Sized g) : g10 [.agg [.list (g.nodes.map .str), .list (g.edges.map eD)]] = some (.bool (few g)) :=
  encSpec_eq (x := g) h fun y hy => by
    simp only [List.cons.injEq, and_true] at hy
    rw [gD_inj hy]
theorem valid_mk6 {g : Graph} {a : Int} (hc : chk g = 0) (h0 : 0 ≤ a) (h1 : a < g.nodes.length) : valid g a = true := by simp [valid, hc, h0, h1]
theorem reach_has6 {g : Graph} {a b : Int} (ha : valid g a = true) (h0 : 0 ≤ b) (h1 : b < g.nodes.length) : (reach g a).contains b = leads g a b := by
  rw [Bool.eq_iff_iff, List.contains_iff_mem]
  simp only [reach, ha, if_true, sieve_mem]
  rw [Int.toNat_of_nonneg h0]
  exact ⟨fun h => h.2.2, fun h => ⟨h0, h1, h⟩⟩
theorem reach_len6 (g : Graph) (a : Int) : (reach g a).length ≤ 1024 := by
  unfold reach
  split
  · rename_i h
    have := sieve_len g.nodes.length (fun i => leads g a i)
    have := (valid_of h).1.nodes
    omega
  · simp
/-- Does a node among the first lead to itself? -/
noncomputable def lpTo (g : Graph) (i : Nat) : Bool := (List.range i).any fun v => leads g v v
theorem lpTo_succ (g : Graph) (i : Nat) : lpTo g (i + 1) = (lpTo g i || leads g i i) := by simp [lpTo, List.range_succ]
noncomputable def g6 : List D → Option D := encSpec (fun g : Graph => [gD g]) (fun g => Sized g) (fun _ => .bool true)
noncomputable def atOf (g : Graph) : List Int := match ordL g with
  | some l => tab g.nodes.length fun v => posOf l v
  | none => []
noncomputable def depOf (g : Graph) : List Int := match ordL g with
  | some _ => dep g
  | none => []
theorem f6_ok : PureOK Try.prog 6 true g6 := by
  refine pure_enc (n := 131) (rs := [.tmp 2]) Try.func6 (by kernel_rfl) rfl (by kernel_rfl) (by kernel_rfl) ?_
  rintro g hs
  have hΓ := Γ6_ok (atOf g) (depOf g)
  refine ⟨fun _ => .bool _, fun c hz0 => ?_⟩
  have e10 := g10_eq6 hs
  have e20 := g20_eq hs
  have hr7 : (0 != (0 : Int)) = false := rfl
  rw [start_frame (by simp)]; simp only [enumV, go_sem, emptyH]
  cases hf : few g with
  | false =>
    rw [hf] at e10
    repeat (first
      | refine awp_seq ?_ | refine awp_block ?_ | refine awp_ret ?_ | refine awp_skip ?_ | refine awp_exit ?_ | refine awp_label ?_
      | refine then_normal ?_ | refine then_ret ?_ | refine then_exit ?_ | refine block_normal ?_ | refine block_ret ?_ | refine block_exit ?_ | refine block_out rfl ?_
      | (apply awp_reg hΓ; (focus (simp (disch := omega) only [go_sem, ↓reduceIte, decide_eq_true, decide_eq_false, if_pos, if_neg, wrap_in, maxLen, Γ6, g9_eq', e10]; with_reducible rfl)))
      | (apply awp_regf mixedOK hΓ (by kernel_rfl); (focus (simp (disch := omega) only [go_sem, ↓reduceIte, decide_eq_true, decide_eq_false, if_pos, if_neg, wrap_in, maxLen, Γ6, g9_eq', e10]; with_reducible rfl)); (focus (simp only [go_sem]; with_reducible rfl)))
      | (apply awp_regt mixedOK hΓ rfl; (focus kernel_rfl); (focus (simp (disch := omega) only [go_sem, ↓reduceIte, decide_eq_true, decide_eq_false, if_pos, if_neg, wrap_in, maxLen, Γ6, g9_eq', e10]; with_reducible rfl)); (focus (simp only [go_sem]; with_reducible rfl)); (focus (simp (disch := omega) only [go_sem, ↓reduceIte, decide_eq_true, decide_eq_false, if_pos, if_neg, wrap_in, maxLen, Γ6, g9_eq', e10]; with_reducible rfl)))
      | (apply awp_cond_t; (focus (simp (disch := omega) only [go_sem, ↓reduceIte, decide_eq_true, decide_eq_false, if_pos, if_neg, wrap_in, maxLen, Γ6, g9_eq', e10]; done))) | (apply awp_cond_f; (focus (simp (disch := omega) only [go_sem, ↓reduceIte, decide_eq_true, decide_eq_false, if_pos, if_neg, wrap_in, maxLen, Γ6, g9_eq', e10]; done)))
      | (apply ret_e; (focus (simp (disch := omega) only [go_sem, ↓reduceIte, decide_eq_true, decide_eq_false, if_pos, if_neg, wrap_in, maxLen, Γ6, g9_eq', e10]; with_reducible rfl)); (focus (simp (disch := omega) only [go_sem, ↓reduceIte, decide_eq_true, decide_eq_false, if_pos, if_neg, wrap_in, maxLen, Γ6, g9_eq', e10]; with_reducible rfl))) | (apply end_e; (focus (simp (disch := omega) only [go_sem, ↓reduceIte, decide_eq_true, decide_eq_false, if_pos, if_neg, wrap_in, maxLen, Γ6, g9_eq', e10]; with_reducible rfl)); (focus (simp (disch := omega) only [go_sem, ↓reduceIte, decide_eq_true, decide_eq_false, if_pos, if_neg, wrap_in, maxLen, Γ6, g9_eq', e10]; with_reducible rfl)))
      | rfl)
  | true =>
  rw [hf] at e10
  by_cases hc0 : chk g = 0
  case neg =>
    have hc0' : (chk g != 0) = true := by simpa using hc0
    repeat (first
      | refine awp_seq ?_ | refine awp_block ?_ | refine awp_ret ?_ | refine awp_skip ?_ | refine awp_exit ?_ | refine awp_label ?_
      | refine then_normal ?_ | refine then_ret ?_ | refine then_exit ?_ | refine block_normal ?_ | refine block_ret ?_ | refine block_exit ?_ | refine block_out rfl ?_
      | (apply awp_reg hΓ; (focus (simp (disch := omega) only [go_sem, ↓reduceIte, decide_eq_true, decide_eq_false, if_pos, if_neg, wrap_in, maxLen, Γ6, g9_eq', e10, e20, hc0']; with_reducible rfl)))
      | (apply awp_regf mixedOK hΓ (by kernel_rfl); (focus (simp (disch := omega) only [go_sem, ↓reduceIte, decide_eq_true, decide_eq_false, if_pos, if_neg, wrap_in, maxLen, Γ6, g9_eq', e10, e20, hc0']; with_reducible rfl)); (focus (simp only [go_sem]; with_reducible rfl)))
      | (apply awp_regt mixedOK hΓ rfl; (focus kernel_rfl); (focus (simp (disch := omega) only [go_sem, ↓reduceIte, decide_eq_true, decide_eq_false, if_pos, if_neg, wrap_in, maxLen, Γ6, g9_eq', e10, e20, hc0']; with_reducible rfl)); (focus (simp only [go_sem]; with_reducible rfl)); (focus (simp (disch := omega) only [go_sem, ↓reduceIte, decide_eq_true, decide_eq_false, if_pos, if_neg, wrap_in, maxLen, Γ6, g9_eq', e10, e20, hc0']; with_reducible rfl)))
      | (apply awp_cond_t; (focus (simp (disch := omega) only [go_sem, ↓reduceIte, decide_eq_true, decide_eq_false, if_pos, if_neg, wrap_in, maxLen, Γ6, g9_eq', e10, e20, hc0']; done))) | (apply awp_cond_f; (focus (simp (disch := omega) only [go_sem, ↓reduceIte, decide_eq_true, decide_eq_false, if_pos, if_neg, wrap_in, maxLen, Γ6, g9_eq', e10, e20, hc0']; done)))
      | (apply ret_e; (focus (simp (disch := omega) only [go_sem, ↓reduceIte, decide_eq_true, decide_eq_false, if_pos, if_neg, wrap_in, maxLen, Γ6, g9_eq', e10, e20, hc0']; with_reducible rfl)); (focus (simp (disch := omega) only [go_sem, ↓reduceIte, decide_eq_true, decide_eq_false, if_pos, if_neg, wrap_in, maxLen, Γ6, g9_eq', e10, e20, hc0']; with_reducible rfl))) | (apply end_e; (focus (simp (disch := omega) only [go_sem, ↓reduceIte, decide_eq_true, decide_eq_false, if_pos, if_neg, wrap_in, maxLen, Γ6, g9_eq', e10, e20, hc0']; with_reducible rfl)); (focus (simp (disch := omega) only [go_sem, ↓reduceIte, decide_eq_true, decide_eq_false, if_pos, if_neg, wrap_in, maxLen, Γ6, g9_eq', e10, e20, hc0']; with_reducible rfl)))
      | rfl)
  rw [hc0] at e20
  have hfit := chk_fit hc0
  have hn := hfit.nodes
  have he := hfit.edges
  have e12 := g12_eq hs
  have e13 := g13_eq hs
  rw [orderR_eq, if_pos hc0] at e12
  unfold depR at e13
  rw [if_pos hc0] at e13
  have e25 := fun a => g25_eq (a := a) hs
  repeat (first
    | refine awp_seq ?_ | refine awp_block ?_ | refine awp_ret ?_ | refine awp_skip ?_ | refine awp_exit ?_ | refine awp_label ?_
    | refine then_normal ?_ | refine then_ret ?_ | refine then_exit ?_ | refine block_normal ?_ | refine block_ret ?_ | refine block_exit ?_ | refine block_out rfl ?_
    | (apply awp_reg hΓ; (focus (simp (disch := omega) only [go_sem, ↓reduceIte, decide_eq_true, decide_eq_false, if_pos, if_neg, wrap_in, maxLen, Γ6, g9_eq', e10, e20, hr7]; with_reducible rfl)))
    | (apply awp_regf mixedOK hΓ (by kernel_rfl); (focus (simp (disch := omega) only [go_sem, ↓reduceIte, decide_eq_true, decide_eq_false, if_pos, if_neg, wrap_in, maxLen, Γ6, g9_eq', e10, e20, hr7]; with_reducible rfl)); (focus (simp only [go_sem]; with_reducible rfl)))
    | (apply awp_regt mixedOK hΓ rfl; (focus kernel_rfl); (focus (simp (disch := omega) only [go_sem, ↓reduceIte, decide_eq_true, decide_eq_false, if_pos, if_neg, wrap_in, maxLen, Γ6, g9_eq', e10, e20, hr7]; with_reducible rfl)); (focus (simp only [go_sem]; with_reducible rfl)); (focus (simp (disch := omega) only [go_sem, ↓reduceIte, decide_eq_true, decide_eq_false, if_pos, if_neg, wrap_in, maxLen, Γ6, g9_eq', e10, e20, hr7]; with_reducible rfl)))
    | (apply awp_cond_t; (focus (simp (disch := omega) only [go_sem, ↓reduceIte, decide_eq_true, decide_eq_false, if_pos, if_neg, wrap_in, maxLen, Γ6, g9_eq', e10, e20, hr7]; done))) | (apply awp_cond_f; (focus (simp (disch := omega) only [go_sem, ↓reduceIte, decide_eq_true, decide_eq_false, if_pos, if_neg, wrap_in, maxLen, Γ6, g9_eq', e10, e20, hr7]; done)))
    | (apply ret_e; (focus (simp (disch := omega) only [go_sem, ↓reduceIte, decide_eq_true, decide_eq_false, if_pos, if_neg, wrap_in, maxLen, Γ6, g9_eq', e10, e20, hr7]; with_reducible rfl)); (focus (simp (disch := omega) only [go_sem, ↓reduceIte, decide_eq_true, decide_eq_false, if_pos, if_neg, wrap_in, maxLen, Γ6, g9_eq', e10, e20, hr7]; with_reducible rfl))) | (apply end_e; (focus (simp (disch := omega) only [go_sem, ↓reduceIte, decide_eq_true, decide_eq_false, if_pos, if_neg, wrap_in, maxLen, Γ6, g9_eq', e10, e20, hr7]; with_reducible rfl)); (focus (simp (disch := omega) only [go_sem, ↓reduceIte, decide_eq_true, decide_eq_false, if_pos, if_neg, wrap_in, maxLen, Γ6, g9_eq', e10, e20, hr7]; with_reducible rfl)))
    | rfl)
  refine awp_loop_at (X := Nat) (fun i => (frame 131 [(1, .ptr 0 0), (3, .data (.bool (lpTo g i))), (25, .data (i64 g.nodes.length)), (26, .data (i64 i))]))
    (fun _ => [(0, .box [.data (.list (g.nodes.map .str)), .data (.list (g.edges.map eD))])]) 1
    (fun i => i ≤ g.nodes.length) (fun i => g.nodes.length - i) 0 (Nat.zero_le _) (Weak.ofF (by omega) (by simp [ConvF, lookV, Conv, ints, lpTo]) (by (simp (disch := omega) only [TabSub, look, if_pos, if_neg, Obj.refsOK, refsOKs, AV.refsOK, decide_eq_true_eq, Bool.and_true, Bool.and_self, lpTo] ) <;> ((repeat' apply And.intro) <;> first | trivial | omega | rfl | (simp; done))) (by simp (disch := omega) only [refsF, AV.refsOK, Bool.and_true, Bool.and_self, decide_eq_true_eq, Bool.true_and, Bool.and_eq_true]; try omega)) ?_
  intro i hi
  repeat (first
    | refine awp_seq ?_ | refine awp_block ?_ | refine awp_ret ?_ | refine awp_skip ?_ | refine awp_exit ?_ | refine awp_label ?_
    | refine then_normal ?_ | refine then_ret ?_ | refine then_exit ?_ | refine block_normal ?_ | refine block_ret ?_ | refine block_exit ?_ | refine block_out rfl ?_
    | (apply awp_reg hΓ; (focus (simp (disch := omega) only [go_sem, ↓reduceIte, decide_eq_true, decide_eq_false, if_pos, if_neg, wrap_in, maxLen]; with_reducible rfl)))
    | (apply awp_regf mixedOK hΓ (by kernel_rfl); (focus (simp (disch := omega) only [go_sem, ↓reduceIte, decide_eq_true, decide_eq_false, if_pos, if_neg, wrap_in, maxLen]; with_reducible rfl)); (focus (simp only [go_sem]; with_reducible rfl)))
    | (apply awp_regt mixedOK hΓ rfl; (focus kernel_rfl); (focus (simp (disch := omega) only [go_sem, ↓reduceIte, decide_eq_true, decide_eq_false, if_pos, if_neg, wrap_in, maxLen]; with_reducible rfl)); (focus (simp only [go_sem]; with_reducible rfl)); (focus (simp (disch := omega) only [go_sem, ↓reduceIte, decide_eq_true, decide_eq_false, if_pos, if_neg, wrap_in, maxLen]; with_reducible rfl)))
    | (apply awp_cond_t; (focus (simp (disch := omega) only [go_sem, ↓reduceIte, decide_eq_true, decide_eq_false, if_pos, if_neg, wrap_in, maxLen]; done))) | (apply awp_cond_f; (focus (simp (disch := omega) only [go_sem, ↓reduceIte, decide_eq_true, decide_eq_false, if_pos, if_neg, wrap_in, maxLen]; done)))
    | (apply ret_e; (focus (simp (disch := omega) only [go_sem, ↓reduceIte, decide_eq_true, decide_eq_false, if_pos, if_neg, wrap_in, maxLen]; with_reducible rfl)); (focus (simp (disch := omega) only [go_sem, ↓reduceIte, decide_eq_true, decide_eq_false, if_pos, if_neg, wrap_in, maxLen]; with_reducible rfl))) | (apply end_e; (focus (simp (disch := omega) only [go_sem, ↓reduceIte, decide_eq_true, decide_eq_false, if_pos, if_neg, wrap_in, maxLen]; with_reducible rfl)); (focus (simp (disch := omega) only [go_sem, ↓reduceIte, decide_eq_true, decide_eq_false, if_pos, if_neg, wrap_in, maxLen]; with_reducible rfl)))
    | rfl)
  refine awp_cond (by simp (disch := omega) only [go_sem, ↓reduceIte]; rfl) (fun hc => ?_) (fun hc => ?_)
  · have hi' : i < g.nodes.length := by simpa using hc
    have e25i := e25 i
    have e21 := g21_eq (l := reach g i) (n := i) (by have := reach_len6 g i; omega)
    rw [reach_has6 (valid_mk6 hc0 (by omega) (by omega)) (by omega) (by omega)] at e21
    have hnx := lpTo_succ g i
    cases hl : lpTo g i with
    | true =>
      rw [hl, Bool.true_or] at hnx
      repeat (first
        | refine awp_seq ?_ | refine awp_block ?_ | refine awp_ret ?_ | refine awp_skip ?_ | refine awp_exit ?_ | refine awp_label ?_
        | refine then_normal ?_ | refine then_ret ?_ | refine then_exit ?_ | refine block_normal ?_ | refine block_ret ?_ | refine block_exit ?_ | refine block_out rfl ?_
        | (apply awp_reg hΓ; (focus (simp (disch := omega) only [go_sem, ↓reduceIte, decide_eq_true, decide_eq_false, if_pos, if_neg, wrap_in, maxLen]; with_reducible rfl)))
        | (apply awp_regf mixedOK hΓ (by kernel_rfl); (focus (simp (disch := omega) only [go_sem, ↓reduceIte, decide_eq_true, decide_eq_false, if_pos, if_neg, wrap_in, maxLen]; with_reducible rfl)); (focus (simp only [go_sem]; with_reducible rfl)))
        | (apply awp_regt mixedOK hΓ rfl; (focus kernel_rfl); (focus (simp (disch := omega) only [go_sem, ↓reduceIte, decide_eq_true, decide_eq_false, if_pos, if_neg, wrap_in, maxLen]; with_reducible rfl)); (focus (simp only [go_sem]; with_reducible rfl)); (focus (simp (disch := omega) only [go_sem, ↓reduceIte, decide_eq_true, decide_eq_false, if_pos, if_neg, wrap_in, maxLen]; with_reducible rfl)))
        | (apply awp_cond_t; (focus (simp (disch := omega) only [go_sem, ↓reduceIte, decide_eq_true, decide_eq_false, if_pos, if_neg, wrap_in, maxLen]; done))) | (apply awp_cond_f; (focus (simp (disch := omega) only [go_sem, ↓reduceIte, decide_eq_true, decide_eq_false, if_pos, if_neg, wrap_in, maxLen]; done)))
        | (apply ret_e; (focus (simp (disch := omega) only [go_sem, ↓reduceIte, decide_eq_true, decide_eq_false, if_pos, if_neg, wrap_in, maxLen]; with_reducible rfl)); (focus (simp (disch := omega) only [go_sem, ↓reduceIte, decide_eq_true, decide_eq_false, if_pos, if_neg, wrap_in, maxLen]; with_reducible rfl))) | (apply end_e; (focus (simp (disch := omega) only [go_sem, ↓reduceIte, decide_eq_true, decide_eq_false, if_pos, if_neg, wrap_in, maxLen]; with_reducible rfl)); (focus (simp (disch := omega) only [go_sem, ↓reduceIte, decide_eq_true, decide_eq_false, if_pos, if_neg, wrap_in, maxLen]; with_reducible rfl)))
        | rfl)
      exact ⟨i + 1, by omega, by omega, Weak.ofF (by omega) (by simp [ConvF, lookV, Conv, ints, hnx]) (by (simp (disch := omega) only [TabSub, look, if_pos, if_neg, Obj.refsOK, refsOKs, AV.refsOK, decide_eq_true_eq, Bool.and_true, Bool.and_self, hnx] ) <;> ((repeat' apply And.intro) <;> first | trivial | omega | rfl | (simp; done))) (by simp (disch := omega) only [refsF, AV.refsOK, Bool.and_true, Bool.and_self, decide_eq_true_eq, Bool.true_and, Bool.and_eq_true]; try omega)⟩
    | false =>
      rw [hl, Bool.false_or] at hnx
      repeat (first
        | refine awp_seq ?_ | refine awp_block ?_ | refine awp_ret ?_ | refine awp_skip ?_ | refine awp_exit ?_ | refine awp_label ?_
        | refine then_normal ?_ | refine then_ret ?_ | refine then_exit ?_ | refine block_normal ?_ | refine block_ret ?_ | refine block_exit ?_ | refine block_out rfl ?_
        | (apply awp_reg hΓ; (focus (simp (disch := omega) only [go_sem, ↓reduceIte, decide_eq_true, decide_eq_false, if_pos, if_neg, wrap_in, maxLen, Γ6, e25i, e21]; with_reducible rfl)))
        | (apply awp_regf mixedOK hΓ (by kernel_rfl); (focus (simp (disch := omega) only [go_sem, ↓reduceIte, decide_eq_true, decide_eq_false, if_pos, if_neg, wrap_in, maxLen, Γ6, e25i, e21]; with_reducible rfl)); (focus (simp only [go_sem]; with_reducible rfl)))
        | (apply awp_regt mixedOK hΓ rfl; (focus kernel_rfl); (focus (simp (disch := omega) only [go_sem, ↓reduceIte, decide_eq_true, decide_eq_false, if_pos, if_neg, wrap_in, maxLen, Γ6, e25i, e21]; with_reducible rfl)); (focus (simp only [go_sem]; with_reducible rfl)); (focus (simp (disch := omega) only [go_sem, ↓reduceIte, decide_eq_true, decide_eq_false, if_pos, if_neg, wrap_in, maxLen, Γ6, e25i, e21]; with_reducible rfl)))
        | (apply awp_cond_t; (focus (simp (disch := omega) only [go_sem, ↓reduceIte, decide_eq_true, decide_eq_false, if_pos, if_neg, wrap_in, maxLen, Γ6, e25i, e21]; done))) | (apply awp_cond_f; (focus (simp (disch := omega) only [go_sem, ↓reduceIte, decide_eq_true, decide_eq_false, if_pos, if_neg, wrap_in, maxLen, Γ6, e25i, e21]; done)))
        | (apply ret_e; (focus (simp (disch := omega) only [go_sem, ↓reduceIte, decide_eq_true, decide_eq_false, if_pos, if_neg, wrap_in, maxLen, Γ6, e25i, e21]; with_reducible rfl)); (focus (simp (disch := omega) only [go_sem, ↓reduceIte, decide_eq_true, decide_eq_false, if_pos, if_neg, wrap_in, maxLen, Γ6, e25i, e21]; with_reducible rfl))) | (apply end_e; (focus (simp (disch := omega) only [go_sem, ↓reduceIte, decide_eq_true, decide_eq_false, if_pos, if_neg, wrap_in, maxLen, Γ6, e25i, e21]; with_reducible rfl)); (focus (simp (disch := omega) only [go_sem, ↓reduceIte, decide_eq_true, decide_eq_false, if_pos, if_neg, wrap_in, maxLen, Γ6, e25i, e21]; with_reducible rfl)))
        | rfl)
      exact ⟨i + 1, by omega, by omega, Weak.ofF (by omega) (by simp [ConvF, lookV, Conv, ints, hnx]) (by (simp (disch := omega) only [TabSub, look, if_pos, if_neg, Obj.refsOK, refsOKs, AV.refsOK, decide_eq_true_eq, Bool.and_true, Bool.and_self, hnx] ) <;> ((repeat' apply And.intro) <;> first | trivial | omega | rfl | (simp; done))) (by simp (disch := omega) only [refsF, AV.refsOK, Bool.and_true, Bool.and_self, decide_eq_true_eq, Bool.true_and, Bool.and_eq_true]; try omega)⟩
  have hin : i = g.nodes.length := by
    have : ¬ i < g.nodes.length := by simpa using hc
    omega
  subst hin
  cases hol : ordL g with
  | none =>
    have hlp : lpTo g g.nodes.length = true := by
      obtain ⟨v, h0, h1, h2⟩ := ordL_loop hfit.inr hol
      refine List.any_eq_true.2 ⟨v.toNat, List.mem_range.2 (by omega), ?_⟩
      rw [Int.toNat_of_nonneg h0]
      exact h2
    rw [hol] at e12 e13
    dsimp only at e12 e13
    have h12 : ((12 : Int) == 12) = true := rfl
    have h00 : ((0 : Int) == 0) = true := rfl
    have h0n : (((0 : Nat) : Int) == 0) = true := rfl
    rw [hlp]
    repeat (first
      | refine awp_seq ?_ | refine awp_block ?_ | refine awp_ret ?_ | refine awp_skip ?_ | refine awp_exit ?_ | refine awp_label ?_
      | refine then_normal ?_ | refine then_ret ?_ | refine then_exit ?_ | refine block_normal ?_ | refine block_ret ?_ | refine block_exit ?_ | refine block_out rfl ?_
      | (apply awp_reg hΓ; (focus (simp (disch := omega) only [go_sem, ↓reduceIte, decide_eq_true, decide_eq_false, if_pos, if_neg, wrap_in, maxLen, Γ6, e12, e13, h12, h00, h0n]; with_reducible rfl)))
      | (apply awp_regf mixedOK hΓ (by kernel_rfl); (focus (simp (disch := omega) only [go_sem, ↓reduceIte, decide_eq_true, decide_eq_false, if_pos, if_neg, wrap_in, maxLen, Γ6, e12, e13, h12, h00, h0n]; with_reducible rfl)); (focus (simp only [go_sem]; with_reducible rfl)))
      | (apply awp_regt mixedOK hΓ rfl; (focus kernel_rfl); (focus (simp (disch := omega) only [go_sem, ↓reduceIte, decide_eq_true, decide_eq_false, if_pos, if_neg, wrap_in, maxLen, Γ6, e12, e13, h12, h00, h0n]; with_reducible rfl)); (focus (simp only [go_sem]; with_reducible rfl)); (focus (simp (disch := omega) only [go_sem, ↓reduceIte, decide_eq_true, decide_eq_false, if_pos, if_neg, wrap_in, maxLen, Γ6, e12, e13, h12, h00, h0n]; with_reducible rfl)))
      | (apply awp_cond_t; (focus (simp (disch := omega) only [go_sem, ↓reduceIte, decide_eq_true, decide_eq_false, if_pos, if_neg, wrap_in, maxLen, Γ6, e12, e13, h12, h00, h0n]; done))) | (apply awp_cond_f; (focus (simp (disch := omega) only [go_sem, ↓reduceIte, decide_eq_true, decide_eq_false, if_pos, if_neg, wrap_in, maxLen, Γ6, e12, e13, h12, h00, h0n]; done)))
      | (apply ret_e; (focus (simp (disch := omega) only [go_sem, ↓reduceIte, decide_eq_true, decide_eq_false, if_pos, if_neg, wrap_in, maxLen, Γ6, e12, e13, h12, h00, h0n]; with_reducible rfl)); (focus (simp (disch := omega) only [go_sem, ↓reduceIte, decide_eq_true, decide_eq_false, if_pos, if_neg, wrap_in, maxLen, Γ6, e12, e13, h12, h00, h0n]; with_reducible rfl))) | (apply end_e; (focus (simp (disch := omega) only [go_sem, ↓reduceIte, decide_eq_true, decide_eq_false, if_pos, if_neg, wrap_in, maxLen, Γ6, e12, e13, h12, h00, h0n]; with_reducible rfl)); (focus (simp (disch := omega) only [go_sem, ↓reduceIte, decide_eq_true, decide_eq_false, if_pos, if_neg, wrap_in, maxLen, Γ6, e12, e13, h12, h00, h0n]; with_reducible rfl)))
      | rfl)
  | some l =>
  obtain ⟨hto, hll⟩ := ordL_topo hfit.inr hol
  have hlp : lpTo g g.nodes.length = false := by
    refine List.any_eq_false.2 fun v hv => ?_
    have := List.mem_range.1 hv
    rw [topo_no_loop hfit.inr hto hll (by omega) (by omega)]
    simp
  have hdl := (dep_is hfit.inr hol).1
  rw [hol] at e12 e13
  dsimp only at e12 e13
  rw [hlp]
  have hat : atOf g = tab g.nodes.length fun v => posOf l v := by simp [atOf, hol]
  have hde : depOf g = dep g := by simp [depOf, hol]
  have e23 : gAnyD eD (Dom24 (atOf g) (depOf g)) 24 [.ref [.list ((atOf g).map i64)], .ref [.list ((depOf g).map i64)]] (notUp (atOf g) (depOf g)) [.list (g.edges.map eD), .clo 24 [.ref [.list ((atOf g).map i64)], .ref [.list ((depOf g).map i64)]]] = some (.bool false) := by
    rw [gAnyD_eq eD_inj2 (by omega)]
    · congr 2
      refine List.any_eq_false.2 fun e hm => ?_
      obtain ⟨r1, r2, r3, r4⟩ := hfit.inr e hm
      have p1 := topo_pos hto hm (hto.all hll r3 r4)
      have p2 := dep_up hfit.inr hol hm
      rw [notUp, hat, hde, ov_tab r1 r2, ov_tab r3 r4, Int.toNat_of_nonneg r1, Int.toNat_of_nonneg r3]
      simp only [Bool.or_eq_true, decide_eq_true_eq]
      omega
    · intro e hm
      obtain ⟨r1, r2, r3, r4⟩ := hfit.inr e hm
      refine ⟨r1, r3, ?_, ?_, ?_, ?_⟩ <;> (first | rw [hat, tab_len] | rw [hde]) <;> omega
  have hg6 : Γ6 (atOf g) (depOf g) 23 = some (.pure true (gAnyD eD (Dom24 (atOf g) (depOf g)) 24 [.ref [.list ((atOf g).map i64)], .ref [.list ((depOf g).map i64)]] (notUp (atOf g) (depOf g)))) := rfl
  have hne1 : ((g.nodes.length : Int) != (g.nodes.length : Int)) = false := by simp
  have hz0' : List.replicate g.nodes.length (D.int .i64 0) = (tab g.nodes.length fun v => if v < 0 then -1 else 0).map i64 := by
    refine List.ext_getElem (by simp [tab]) fun i h1 h2 => ?_
    simp [tab]
  repeat (first
    | refine awp_seq ?_ | refine awp_block ?_ | refine awp_ret ?_ | refine awp_skip ?_ | refine awp_exit ?_ | refine awp_label ?_
    | refine then_normal ?_ | refine then_ret ?_ | refine then_exit ?_ | refine block_normal ?_ | refine block_ret ?_ | refine block_exit ?_ | refine block_out rfl ?_
    | (apply awp_reg hΓ; (focus (simp (disch := omega) only [go_sem, ↓reduceIte, decide_eq_true, decide_eq_false, if_pos, if_neg, wrap_in, maxLen, Γ6, e12, e13, hr7, ints, hne1, hz0', hll, hdl, tab_len]; with_reducible rfl)))
    | (apply awp_regf mixedOK hΓ (by kernel_rfl); (focus (simp (disch := omega) only [go_sem, ↓reduceIte, decide_eq_true, decide_eq_false, if_pos, if_neg, wrap_in, maxLen, Γ6, e12, e13, hr7, ints, hne1, hz0', hll, hdl, tab_len]; with_reducible rfl)); (focus (simp only [go_sem]; with_reducible rfl)))
    | (apply awp_regt mixedOK hΓ rfl; (focus kernel_rfl); (focus (simp (disch := omega) only [go_sem, ↓reduceIte, decide_eq_true, decide_eq_false, if_pos, if_neg, wrap_in, maxLen, Γ6, e12, e13, hr7, ints, hne1, hz0', hll, hdl, tab_len]; with_reducible rfl)); (focus (simp only [go_sem]; with_reducible rfl)); (focus (simp (disch := omega) only [go_sem, ↓reduceIte, decide_eq_true, decide_eq_false, if_pos, if_neg, wrap_in, maxLen, Γ6, e12, e13, hr7, ints, hne1, hz0', hll, hdl, tab_len]; with_reducible rfl)))
    | (apply awp_cond_t; (focus (simp (disch := omega) only [go_sem, ↓reduceIte, decide_eq_true, decide_eq_false, if_pos, if_neg, wrap_in, maxLen, Γ6, e12, e13, hr7, ints, hne1, hz0', hll, hdl, tab_len]; done))) | (apply awp_cond_f; (focus (simp (disch := omega) only [go_sem, ↓reduceIte, decide_eq_true, decide_eq_false, if_pos, if_neg, wrap_in, maxLen, Γ6, e12, e13, hr7, ints, hne1, hz0', hll, hdl, tab_len]; done)))
    | (apply ret_e; (focus (simp (disch := omega) only [go_sem, ↓reduceIte, decide_eq_true, decide_eq_false, if_pos, if_neg, wrap_in, maxLen, Γ6, e12, e13, hr7, ints, hne1, hz0', hll, hdl, tab_len]; with_reducible rfl)); (focus (simp (disch := omega) only [go_sem, ↓reduceIte, decide_eq_true, decide_eq_false, if_pos, if_neg, wrap_in, maxLen, Γ6, e12, e13, hr7, ints, hne1, hz0', hll, hdl, tab_len]; with_reducible rfl))) | (apply end_e; (focus (simp (disch := omega) only [go_sem, ↓reduceIte, decide_eq_true, decide_eq_false, if_pos, if_neg, wrap_in, maxLen, Γ6, e12, e13, hr7, ints, hne1, hz0', hll, hdl, tab_len]; with_reducible rfl)); (focus (simp (disch := omega) only [go_sem, ↓reduceIte, decide_eq_true, decide_eq_false, if_pos, if_neg, wrap_in, maxLen, Γ6, e12, e13, hr7, ints, hne1, hz0', hll, hdl, tab_len]; with_reducible rfl)))
    | rfl)
  have hzz : (tab g.nodes.length fun v => if v < 0 then (-1 : Int) else 0) = tab g.nodes.length fun _ => 0 := tab_congr fun v _ => by simp
  refine awp_loop_at (X := Nat) (fun i => (frame 131 [(1, .ptr 0 0), (5, .data (.list (l.map i64))), (7, .ptr 14 0), (9, .ptr 43 0), (91, .data (i64 g.nodes.length)), (92, .data (i64 i))]))
    (fun i => [(0, .box [.data (.list (g.nodes.map .str)), .data (.list (g.edges.map eD))]), (14, .box [.data (.list ((dep g).map i64))]), (42, .row 3 1 ((tab g.nodes.length fun v => if v < i then -1 else 0).map i64)), (43, .box [.row 42 g.nodes.length])]) 44
    (fun i => i ≤ g.nodes.length) (fun i => g.nodes.length - i) 0 (Nat.zero_le _) (Weak.ofF (by omega) (by simp [ConvF, lookV, Conv, ints, hzz]) (by (simp (disch := omega) only [TabSub, look, if_pos, if_neg, Obj.refsOK, refsOKs, AV.refsOK, decide_eq_true_eq, Bool.and_true, Bool.and_self, hzz] ) <;> ((repeat' apply And.intro) <;> first | trivial | omega | rfl | (simp; done))) (by simp (disch := omega) only [refsF, AV.refsOK, Bool.and_true, Bool.and_self, decide_eq_true_eq, Bool.true_and, Bool.and_eq_true]; try omega)) ?_
  intro i hi
  have htl := tab_len g.nodes.length fun v => if v < i then (-1 : Int) else 0
  by_cases hi' : i < g.nodes.length
  · have hset : ((tab g.nodes.length fun v => if v < i then (-1 : Int) else 0).map i64).set i (.int .i64 (-1)) = (tab g.nodes.length fun v => if v < i + 1 then (-1 : Int) else 0).map i64 := by
      have h1 : (tab g.nodes.length fun v => if v < i then (-1 : Int) else 0).set i (-1) = tab g.nodes.length fun v => if v < i + 1 then (-1 : Int) else 0 := by
        rw [tab_set]
        refine tab_congr fun v hv => ?_
        by_cases h : v = i
        · rw [if_pos h, if_pos (by omega)]
        · rw [if_neg h]
          by_cases h2 : v < i
          · rw [if_pos h2, if_pos (by omega)]
          · rw [if_neg h2, if_neg (by omega)]
      rw [← h1, List.map_set]
    repeat (first
      | refine awp_seq ?_ | refine awp_block ?_ | refine awp_ret ?_ | refine awp_skip ?_ | refine awp_exit ?_ | refine awp_label ?_
      | refine then_normal ?_ | refine then_ret ?_ | refine then_exit ?_ | refine block_normal ?_ | refine block_ret ?_ | refine block_exit ?_ | refine block_out rfl ?_
      | (apply awp_reg hΓ; (focus (simp (disch := omega) only [go_sem, ↓reduceIte, decide_eq_true, decide_eq_false, if_pos, if_neg, wrap_in, maxLen, htl, hset]; with_reducible rfl)))
      | (apply awp_regf mixedOK hΓ (by kernel_rfl); (focus (simp (disch := omega) only [go_sem, ↓reduceIte, decide_eq_true, decide_eq_false, if_pos, if_neg, wrap_in, maxLen, htl, hset]; with_reducible rfl)); (focus (simp only [go_sem]; with_reducible rfl)))
      | (apply awp_regt mixedOK hΓ rfl; (focus kernel_rfl); (focus (simp (disch := omega) only [go_sem, ↓reduceIte, decide_eq_true, decide_eq_false, if_pos, if_neg, wrap_in, maxLen, htl, hset]; with_reducible rfl)); (focus (simp only [go_sem]; with_reducible rfl)); (focus (simp (disch := omega) only [go_sem, ↓reduceIte, decide_eq_true, decide_eq_false, if_pos, if_neg, wrap_in, maxLen, htl, hset]; with_reducible rfl)))
      | (apply awp_cond_t; (focus (simp (disch := omega) only [go_sem, ↓reduceIte, decide_eq_true, decide_eq_false, if_pos, if_neg, wrap_in, maxLen, htl, hset]; done))) | (apply awp_cond_f; (focus (simp (disch := omega) only [go_sem, ↓reduceIte, decide_eq_true, decide_eq_false, if_pos, if_neg, wrap_in, maxLen, htl, hset]; done)))
      | (apply ret_e; (focus (simp (disch := omega) only [go_sem, ↓reduceIte, decide_eq_true, decide_eq_false, if_pos, if_neg, wrap_in, maxLen, htl, hset]; with_reducible rfl)); (focus (simp (disch := omega) only [go_sem, ↓reduceIte, decide_eq_true, decide_eq_false, if_pos, if_neg, wrap_in, maxLen, htl, hset]; with_reducible rfl))) | (apply end_e; (focus (simp (disch := omega) only [go_sem, ↓reduceIte, decide_eq_true, decide_eq_false, if_pos, if_neg, wrap_in, maxLen, htl, hset]; with_reducible rfl)); (focus (simp (disch := omega) only [go_sem, ↓reduceIte, decide_eq_true, decide_eq_false, if_pos, if_neg, wrap_in, maxLen, htl, hset]; with_reducible rfl)))
      | rfl)
    exact ⟨i + 1, by omega, by omega, Weak.ofF (by omega) (by simp [ConvF, lookV, Conv, ints]) (by (simp (disch := omega) only [TabSub, look, if_pos, if_neg, Obj.refsOK, refsOKs, AV.refsOK, decide_eq_true_eq, Bool.and_true, Bool.and_self] ) <;> ((repeat' apply And.intro) <;> first | trivial | omega | rfl | (simp; done))) (by simp (disch := omega) only [refsF, AV.refsOK, Bool.and_true, Bool.and_self, decide_eq_true_eq, Bool.true_and, Bool.and_eq_true]; try omega)⟩
  have hie : i = g.nodes.length := by omega
  have hAB : (tab g.nodes.length fun v => if v < i then (-1 : Int) else 0) = tab g.nodes.length fun v => if posOf l v < 0 then (posOf l v : Int) else -1 := tab_congr fun v hv => by rw [if_pos (by omega), if_neg (by omega)]
  rw [hAB]
  clear htl
  repeat (first
    | refine awp_seq ?_ | refine awp_block ?_ | refine awp_ret ?_ | refine awp_skip ?_ | refine awp_exit ?_ | refine awp_label ?_
    | refine then_normal ?_ | refine then_ret ?_ | refine then_exit ?_ | refine block_normal ?_ | refine block_ret ?_ | refine block_exit ?_ | refine block_out rfl ?_
    | (apply awp_reg hΓ; (focus (simp (disch := omega) only [go_sem, ↓reduceIte, decide_eq_true, decide_eq_false, if_pos, if_neg, wrap_in, maxLen, hll]; with_reducible rfl)))
    | (apply awp_regf mixedOK hΓ (by kernel_rfl); (focus (simp (disch := omega) only [go_sem, ↓reduceIte, decide_eq_true, decide_eq_false, if_pos, if_neg, wrap_in, maxLen, hll]; with_reducible rfl)); (focus (simp only [go_sem]; with_reducible rfl)))
    | (apply awp_regt mixedOK hΓ rfl; (focus kernel_rfl); (focus (simp (disch := omega) only [go_sem, ↓reduceIte, decide_eq_true, decide_eq_false, if_pos, if_neg, wrap_in, maxLen, hll]; with_reducible rfl)); (focus (simp only [go_sem]; with_reducible rfl)); (focus (simp (disch := omega) only [go_sem, ↓reduceIte, decide_eq_true, decide_eq_false, if_pos, if_neg, wrap_in, maxLen, hll]; with_reducible rfl)))
    | (apply awp_cond_t; (focus (simp (disch := omega) only [go_sem, ↓reduceIte, decide_eq_true, decide_eq_false, if_pos, if_neg, wrap_in, maxLen, hll]; done))) | (apply awp_cond_f; (focus (simp (disch := omega) only [go_sem, ↓reduceIte, decide_eq_true, decide_eq_false, if_pos, if_neg, wrap_in, maxLen, hll]; done)))
    | (apply ret_e; (focus (simp (disch := omega) only [go_sem, ↓reduceIte, decide_eq_true, decide_eq_false, if_pos, if_neg, wrap_in, maxLen, hll]; with_reducible rfl)); (focus (simp (disch := omega) only [go_sem, ↓reduceIte, decide_eq_true, decide_eq_false, if_pos, if_neg, wrap_in, maxLen, hll]; with_reducible rfl))) | (apply end_e; (focus (simp (disch := omega) only [go_sem, ↓reduceIte, decide_eq_true, decide_eq_false, if_pos, if_neg, wrap_in, maxLen, hll]; with_reducible rfl)); (focus (simp (disch := omega) only [go_sem, ↓reduceIte, decide_eq_true, decide_eq_false, if_pos, if_neg, wrap_in, maxLen, hll]; with_reducible rfl)))
    | rfl)
  refine awp_loop_at (X := Nat) (fun i => (frame 131 [(1, .ptr 0 0), (5, .data (.list (l.map i64))), (7, .ptr 14 0), (9, .ptr 43 0), (99, .data (.list (l.map i64))), (100, .data (i64 g.nodes.length)), (101, .data (i64 i))]))
    (fun i => [(0, .box [.data (.list (g.nodes.map .str)), .data (.list (g.edges.map eD))]), (14, .box [.data (.list ((dep g).map i64))]), (42, .row 3 1 ((tab g.nodes.length fun v => if posOf l v < i then (posOf l v : Int) else -1).map i64)), (43, .box [.row 42 g.nodes.length])]) 44
    (fun i => i ≤ g.nodes.length) (fun i => g.nodes.length - i) 0 (Nat.zero_le _) (Weak.ofF (by omega) (by simp [ConvF, lookV, Conv, ints]) (by (simp (disch := omega) only [TabSub, look, if_pos, if_neg, Obj.refsOK, refsOKs, AV.refsOK, decide_eq_true_eq, Bool.and_true, Bool.and_self] ) <;> ((repeat' apply And.intro) <;> first | trivial | omega | rfl | (simp; done))) (by simp (disch := omega) only [refsF, AV.refsOK, Bool.and_true, Bool.and_self, decide_eq_true_eq, Bool.true_and, Bool.and_eq_true]; try omega)) ?_
  clear hi hi' hie hAB
  intro i hi
  have htl := tab_len g.nodes.length fun v => if posOf l v < i then (posOf l v : Int) else -1
  by_cases hi' : i < g.nodes.length
  · have hil : i < l.length := by omega
    have hpos := pos_at hto.nodup hil
    obtain ⟨w0, w1⟩ := hto.inr _ (List.getElem_mem hil)
    generalize hw : l[i] = w at hpos w0 w1
    have hget := tab_get (n := g.nodes.length) (f := fun v => if posOf l v < i then (posOf l v : Int) else -1) (v := w.toNat) (by rw [tab_len]; omega)
    rw [Int.toNat_of_nonneg w0, hpos, if_neg (by omega)] at hget
    have hset : ((tab g.nodes.length fun v => if posOf l v < i then (posOf l v : Int) else -1).map i64).set w.toNat (.int .i64 (i : Int)) = (tab g.nodes.length fun v => if posOf l v < i + 1 then (posOf l v : Int) else -1).map i64 := by
      have h1 : (tab g.nodes.length fun v => if posOf l v < i then (posOf l v : Int) else -1).set w.toNat (i : Int) = tab g.nodes.length fun v => if posOf l v < i + 1 then (posOf l v : Int) else -1 := by
        rw [tab_set]
        refine tab_congr fun v hv => ?_
        by_cases h : v = w.toNat
        · have : (v : Int) = w := by omega
          rw [if_pos h, this, hpos, if_pos (by omega)]
        · rw [if_neg h]
          have hne : posOf l v ≠ i := fun hh => by
            have hm := hto.all hll (v := (v : Int)) (by omega) (by omega)
            have h2 := List.findIdx_getElem (p := (· == (v : Int))) (xs := l) (w := pos_lt hm)
            simp only [beq_iff_eq] at h2
            have h3 : l[posOf l v]'(pos_lt hm) = l[i] := by congr 1
            have h4 : l[posOf l v]'(pos_lt hm) = (v : Int) := h2
            rw [h3, hw] at h4
            omega
          by_cases h2 : posOf l v < i
          · rw [if_pos h2, if_pos (by omega)]
          · rw [if_neg h2, if_neg (by omega)]
      rw [← h1, List.map_set]
    repeat (first
      | refine awp_seq ?_ | refine awp_block ?_ | refine awp_ret ?_ | refine awp_skip ?_ | refine awp_exit ?_ | refine awp_label ?_
      | refine then_normal ?_ | refine then_ret ?_ | refine then_exit ?_ | refine block_normal ?_ | refine block_ret ?_ | refine block_exit ?_ | refine block_out rfl ?_
      | (apply awp_reg hΓ; (focus (simp (disch := omega) only [go_sem, ↓reduceIte, decide_eq_true, decide_eq_false, if_pos, if_neg, wrap_in, maxLen, htl, hll, hw, hget, hset]; with_reducible rfl)))
      | (apply awp_regf mixedOK hΓ (by kernel_rfl); (focus (simp (disch := omega) only [go_sem, ↓reduceIte, decide_eq_true, decide_eq_false, if_pos, if_neg, wrap_in, maxLen, htl, hll, hw, hget, hset]; with_reducible rfl)); (focus (simp only [go_sem]; with_reducible rfl)))
      | (apply awp_regt mixedOK hΓ rfl; (focus kernel_rfl); (focus (simp (disch := omega) only [go_sem, ↓reduceIte, decide_eq_true, decide_eq_false, if_pos, if_neg, wrap_in, maxLen, htl, hll, hw, hget, hset]; with_reducible rfl)); (focus (simp only [go_sem]; with_reducible rfl)); (focus (simp (disch := omega) only [go_sem, ↓reduceIte, decide_eq_true, decide_eq_false, if_pos, if_neg, wrap_in, maxLen, htl, hll, hw, hget, hset]; with_reducible rfl)))
      | (apply awp_cond_t; (focus (simp (disch := omega) only [go_sem, ↓reduceIte, decide_eq_true, decide_eq_false, if_pos, if_neg, wrap_in, maxLen, htl, hll, hw, hget, hset]; done))) | (apply awp_cond_f; (focus (simp (disch := omega) only [go_sem, ↓reduceIte, decide_eq_true, decide_eq_false, if_pos, if_neg, wrap_in, maxLen, htl, hll, hw, hget, hset]; done)))
      | (apply ret_e; (focus (simp (disch := omega) only [go_sem, ↓reduceIte, decide_eq_true, decide_eq_false, if_pos, if_neg, wrap_in, maxLen, htl, hll, hw, hget, hset]; with_reducible rfl)); (focus (simp (disch := omega) only [go_sem, ↓reduceIte, decide_eq_true, decide_eq_false, if_pos, if_neg, wrap_in, maxLen, htl, hll, hw, hget, hset]; with_reducible rfl))) | (apply end_e; (focus (simp (disch := omega) only [go_sem, ↓reduceIte, decide_eq_true, decide_eq_false, if_pos, if_neg, wrap_in, maxLen, htl, hll, hw, hget, hset]; with_reducible rfl)); (focus (simp (disch := omega) only [go_sem, ↓reduceIte, decide_eq_true, decide_eq_false, if_pos, if_neg, wrap_in, maxLen, htl, hll, hw, hget, hset]; with_reducible rfl)))
      | rfl)
    exact ⟨i + 1, by omega, by omega, Weak.ofF (by omega) (by simp [ConvF, lookV, Conv, ints]) (by (simp (disch := omega) only [TabSub, look, if_pos, if_neg, Obj.refsOK, refsOKs, AV.refsOK, decide_eq_true_eq, Bool.and_true, Bool.and_self] ) <;> ((repeat' apply And.intro) <;> first | trivial | omega | rfl | (simp; done))) (by simp (disch := omega) only [refsF, AV.refsOK, Bool.and_true, Bool.and_self, decide_eq_true_eq, Bool.true_and, Bool.and_eq_true]; try omega)⟩
  have hie : i = g.nodes.length := by omega
  have hBn : (tab g.nodes.length fun v => if posOf l v < i then (posOf l v : Int) else -1) = atOf g := by
    rw [hat]
    refine tab_congr fun v hv => ?_
    have := pos_lt (hto.all hll (v := (v : Int)) (by omega) (by omega))
    rw [if_pos (by omega)]
  have hal : (atOf g).length = g.nodes.length := by rw [hat, tab_len]
  rw [hBn]
  have e23' : gAnyD eD (Dom24 (atOf g) (depOf g)) 24 [.ref [.list ((atOf g).map i64)], .ref [.list ((depOf g).map i64)]] (notUp (atOf g) (depOf g)) [.list (g.edges.map eD), .clo 24 [.ref [.list ((atOf g).map i64)], .ref [.list ((dep g).map i64)]]] = some (.bool false) := by
    rw [← e23, hde]
  clear htl
  repeat (first
    | refine awp_seq ?_ | refine awp_block ?_ | refine awp_ret ?_ | refine awp_skip ?_ | refine awp_exit ?_ | refine awp_label ?_
    | refine then_normal ?_ | refine then_ret ?_ | refine then_exit ?_ | refine block_normal ?_ | refine block_ret ?_ | refine block_exit ?_ | refine block_out rfl ?_
    | (apply awp_reg hΓ; (focus (simp (disch := omega) only [go_sem, ↓reduceIte, decide_eq_true, decide_eq_false, if_pos, if_neg, wrap_in, maxLen, Γ6, hal, e23']; with_reducible rfl)))
    | (apply awp_regf mixedOK hΓ (by kernel_rfl); (focus (simp (disch := omega) only [go_sem, ↓reduceIte, decide_eq_true, decide_eq_false, if_pos, if_neg, wrap_in, maxLen, Γ6, hal, e23']; with_reducible rfl)); (focus (simp only [go_sem]; with_reducible rfl)))
    | (apply awp_regt mixedOK hΓ rfl; (focus kernel_rfl); (focus (simp (disch := omega) only [go_sem, ↓reduceIte, decide_eq_true, decide_eq_false, if_pos, if_neg, wrap_in, maxLen, Γ6, hal, e23']; with_reducible rfl)); (focus (simp only [go_sem]; with_reducible rfl)); (focus (simp (disch := omega) only [go_sem, ↓reduceIte, decide_eq_true, decide_eq_false, if_pos, if_neg, wrap_in, maxLen, Γ6, hal, e23']; with_reducible rfl)))
    | (apply awp_cond_t; (focus (simp (disch := omega) only [go_sem, ↓reduceIte, decide_eq_true, decide_eq_false, if_pos, if_neg, wrap_in, maxLen, Γ6, hal, e23']; done))) | (apply awp_cond_f; (focus (simp (disch := omega) only [go_sem, ↓reduceIte, decide_eq_true, decide_eq_false, if_pos, if_neg, wrap_in, maxLen, Γ6, hal, e23']; done)))
    | (apply ret_e; (focus (simp (disch := omega) only [go_sem, ↓reduceIte, decide_eq_true, decide_eq_false, if_pos, if_neg, wrap_in, maxLen, Γ6, hal, e23']; with_reducible rfl)); (focus (simp (disch := omega) only [go_sem, ↓reduceIte, decide_eq_true, decide_eq_false, if_pos, if_neg, wrap_in, maxLen, Γ6, hal, e23']; with_reducible rfl))) | (apply end_e; (focus (simp (disch := omega) only [go_sem, ↓reduceIte, decide_eq_true, decide_eq_false, if_pos, if_neg, wrap_in, maxLen, Γ6, hal, e23']; with_reducible rfl)); (focus (simp (disch := omega) only [go_sem, ↓reduceIte, decide_eq_true, decide_eq_false, if_pos, if_neg, wrap_in, maxLen, Γ6, hal, e23']; with_reducible rfl)))
    | rfl)
end Go.Ab
