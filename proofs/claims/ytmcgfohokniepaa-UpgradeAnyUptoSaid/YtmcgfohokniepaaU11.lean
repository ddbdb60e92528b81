/-
  One text of the proof (own work): contracts of functions of the program, by the abstract machine.
-/
import Derived.Test.YtmcgfohokniepaaU10
set_option linter.unusedVariables false
set_option linter.unusedSimpArgs false
namespace Go.Ab
open Go Go.RowKit Go.Proofs
set_option maxRecDepth 4000
set_option maxHeartbeats 4000000

/-! ### A map of questions with their scopes -/
abbrev Qs := List UInt8 × List UInt8
def eQ (k : Qs) : D := .agg [.str k.1, .str k.2]
theorem eQ_inj (a b : Qs) (h : eQ a = eQ b) : a = b := by obtain ⟨a1, a2⟩ := a; obtain ⟨b1, b2⟩ := b; simp [eQ] at h; simp [h]
def qK (ks : List Qs) : List D := ks.map eQ
def qV (ks : List Qs) : List D := ks.map fun _ => .bool true
theorem und77 : Program.underlying Try.prog 77 = some (.struct #[⟨"text", 9, 0, false, "", "licit/upgrade", 0⟩, ⟨"scope", 9, 1, false, "", "licit/upgrade", 16⟩]) := by kernel_rfl
theorem same77 (a b : Qs) : keySame Try.prog 77 (.agg [.str a.1, .str a.2]) (.agg [.str b.1, .str b.2]) = some (a == b) := by
  have hg : (Try.prog.stoodInHeld 77 || Try.prog.eqGuardType Try.prog.depth 77) = false := by kernel_rfl
  have e : (a == b) = ((a.1 == b.1) && ((a.2 == b.2) && true)) := by
    obtain ⟨a1, a2⟩ := a; obtain ⟨b1, b2⟩ := b
    rw [Bool.and_true]; rfl
  simp only [keySame]
  unfold eqAgg
  rw [und77]
  simp only [hg, Bool.false_eq_true, if_false, e]
  simp [eqFlds, keyKind, keyEq, ty_und9, ty_agg9, aggEq]
@[go_sem] theorem keyOK_q (a b : List UInt8) : keyOK Try.prog 77 (.agg [.str a, .str b]) = true := by
  simp only [keyOK, und77]
  simp [keyFlds, keyKind, ty_und9, ty_agg9]
@[go_sem] theorem qK_ok (ks : List Qs) : (qK ks).all (keyOK Try.prog 77) = true := by
  rw [List.all_eq_true]
  intro d hd
  obtain ⟨s, _, rfl⟩ := List.mem_map.1 hd
  exact keyOK_q _ _
theorem mfind_q (id : Qs) : ∀ (ks : List Qs) (n : Nat), mfind Try.prog 77 (.agg [.str id.1, .str id.2]) (qK ks) n = some ((ks.findIdx? (id == ·)).map (· + n))
  | [], n => rfl
  | x :: ks, n => by
    simp only [qK, eQ, List.map_cons, mfind, same77, List.findIdx?_cons]
    cases h : (id == x) with
    | true => simp
    | false =>
      have := mfind_q id ks (n + 1)
      simp only [qK] at this
      simp only [this]
      cases ks.findIdx? (id == ·) <;> simp <;> omega
theorem containsQ_find (id : Qs) (ks : List Qs) : ks.contains id = (ks.findIdx? (id == ·)).isSome := by
  induction ks with
  | nil => rfl
  | cons x ks ih =>
    rw [List.contains_cons, ih, List.findIdx?_cons]
    cases (id == x) <;> simp
theorem mget_q (a b : List UInt8) (ks : List Qs) : mget Try.prog 77 (qK ks) (qV ks) (.agg [.str a, .str b]) = some (if ks.contains (a, b) then some (.bool true) else none) := by
  unfold mget
  rw [mfind_q (a, b), containsQ_find]
  cases h : ks.findIdx? ((a, b) == ·) with
  | none => simp
  | some i =>
    have hi := (List.findIdx?_eq_some_iff_getElem.1 h).1
    simp [qV, hi]
def qadd (ks : List Qs) (id : Qs) : List Qs := if ks.contains id then ks else ks ++ [id]
theorem mput_q (a b : List UInt8) (ks : List Qs) : mput Try.prog 77 (qK ks) (qV ks) (.agg [.str a, .str b]) (.bool true) = some (qK (qadd ks (a, b)), qV (qadd ks (a, b))) := by
  unfold mput qadd
  rw [mfind_q (a, b), containsQ_find]
  cases h : ks.findIdx? ((a, b) == ·) with
  | none => simp [qK, qV, eQ]
  | some i =>
    obtain ⟨hi, h2, _⟩ := List.findIdx?_eq_some_iff_getElem.1 h
    have h2 : (a, b) = ks[i] := by simpa using h2
    simp only [Option.map_some, Nat.add_zero, Option.isSome_some, if_true, Option.some.injEq, Prod.mk.injEq]
    constructor
    · simp only [qK]
      have h3 : D.agg [.str a, .str b] = eQ ks[i] := by rw [← h2]; rfl
      rw [h3]
      apply List.ext_getElem (by simp)
      intro j h3 h4
      rw [List.getElem_set]
      split
      · rename_i he; subst he; simp
      · rfl
    · simp only [qV]
      apply List.ext_getElem (by simp)
      intro j h3 h4
      rw [List.getElem_set]
      split <;> simp
theorem qadd_has (ks : List Qs) (a id : Qs) : (qadd ks a).contains id = ((a == id) || ks.contains id) := by
  unfold qadd
  by_cases h : ks.contains a = true
  · rw [if_pos h]
    by_cases he : a = id
    · subst he; simp only [h, beq_self_eq_true, Bool.true_or]
    · simp [he]
  · rw [if_neg h]
    rw [Bool.eq_iff_iff]
    simp only [List.contains_iff_mem, List.mem_append, List.mem_singleton, Bool.or_eq_true, beq_iff_eq]
    constructor
    · rintro (h | h)
      · exact .inr h
      · exact .inl h.symm
    · rintro (h | h)
      · exact .inr h.symm
      · exact .inl h
/-! ### What is answered -/
def anStep (r : Rev) (l : List Now) (ks : List Qs) (d : Dc) : List Qs := if stat r l d == 1 then qadd ks (d.q, d.s) else ks
def anK (r : Rev) (l : List Now) (i : Nat) : List Qs := (r.dcs.take i).foldl (anStep r l) []
theorem anK_succ {r : Rev} {l : List Now} {i : Nat} (h : i < r.dcs.length) : anK r l (i + 1) = anStep r l (anK r l i) r.dcs[i] := by
  unfold anK
  rw [List.take_add_one, List.getElem?_eq_getElem h, List.foldl_append]
  rfl
theorem anfold_has (r : Rev) (l : List Now) (q s : List UInt8) : ∀ (ds : List Dc) (ks : List Qs), (ds.foldl (anStep r l) ks).contains (q, s) = ((ds.any (hit r l q s)) || ks.contains (q, s))
  | [], ks => by simp
  | d :: ds, ks => by
    rw [List.foldl_cons, anfold_has r l q s ds, List.any_cons]
    unfold anStep hit
    have e : ((d.q, d.s) == (q, s)) = ((d.q == q) && (d.s == s)) := rfl
    cases h : (stat r l d == 1) with
    | true =>
      simp only [if_true, qadd_has, e]
      cases (d.q == q) <;> cases (d.s == s) <;> simp
    | false => simp
theorem ansfold_empty (r : Rev) (l : List Now) (q s : List UInt8) : ∀ (ds : List Dc) (acc : List (List UInt8)), (ds.foldl (ansStep r l q s) acc).isEmpty = (acc.isEmpty && !(ds.any (hit r l q s)))
  | [], acc => by simp
  | d :: ds, acc => by
    rw [List.foldl_cons, ansfold_empty r l q s ds, List.any_cons]
    unfold ansStep
    cases h : hit r l q s d with
    | true =>
      simp only [if_true, Bool.true_or, Bool.not_true, Bool.and_false]
      split
      · rename_i ha
        cases acc with
        | nil => simp at ha
        | cons a acc => simp
      · simp
    | false => simp
theorem open1_eq (r : Rev) (l : List Now) (x : Now) : open1 r l x = !((anK r l r.dcs.length).contains (x.q, x.s)) := by
  unfold open1 ansN anK
  rw [List.take_length, ansfold_empty, anfold_has]
  simp
noncomputable def Γ18 : FuncId → Option CSpec := fun f => if f = 22 then some (.pure true g22) else if f = 39 then some (.pure false g39) else none
theorem Γ18_ok : ∀ f s, Γ18 f = some s → SpecOK Try.prog f s := by
  intro f s h
  unfold Γ18 at h
  split at h
  · rename_i hf; cases h; subst hf; exact f22_ok
  split at h
  · rename_i hf; cases h; subst hf; exact f39_ok
  · cases h
theorem f18_ok : PureOK Try.prog 18 false g19 := by
  have hΓ := Γ18_ok
  refine pure_enc (n := 65) (rs := [.tmp 4, .tmp 5]) Try.func18 (by kernel_rfl) rfl (by kernel_rfl) (by kernel_rfl) ?_
  rintro ⟨r, l⟩ hz
  dsimp only at hz ⊢
  have hll := hz.v.l
  have hdl := hz.v.r.dcs
  refine ⟨fun h => (by cases h), fun k hz0 => ?_⟩
  have e22 := g22_eq hz.v.l
  have e39 := g39_eq hz
  have h10 : ((1 : Int) != 0) = true := rfl
  have h00 : ((0 : Int) != 0) = false := rfl
  rw [start_frame (by simp)]; simp only [enumV, go_sem, emptyH]
  rcases vld_01 l with h | h
  case inr =>
    have hs : duR r l = .tup [.list [], i64 1] := by simp [duR, h]
    rw [h] at e22
    repeat (first
      | refine awp_seq ?_ | refine awp_block ?_ | refine awp_ret ?_ | refine awp_skip ?_ | refine awp_exit ?_ | refine awp_label ?_
      | refine then_normal ?_ | refine then_ret ?_ | refine then_exit ?_ | refine block_normal ?_ | refine block_ret ?_ | refine block_exit ?_ | refine block_out rfl ?_
      | (apply awp_reg hΓ; (focus (simp (disch := omega) only [go_sem, ↓reduceIte, decide_eq_true, decide_eq_false, if_pos, if_neg, wrap_in, maxLen, Γ18, e22, h10]; with_reducible rfl)))
      | (apply awp_regf mixedOK hΓ (by kernel_rfl); (focus (simp (disch := omega) only [go_sem, ↓reduceIte, decide_eq_true, decide_eq_false, if_pos, if_neg, wrap_in, maxLen, Γ18, e22, h10]; with_reducible rfl)); (focus (simp only [go_sem]; with_reducible rfl)))
      | (apply awp_regt mixedOK hΓ rfl; (focus kernel_rfl); (focus (simp (disch := omega) only [go_sem, ↓reduceIte, decide_eq_true, decide_eq_false, if_pos, if_neg, wrap_in, maxLen, Γ18, e22, h10]; with_reducible rfl)); (focus (simp only [go_sem]; with_reducible rfl)); (focus (simp (disch := omega) only [go_sem, ↓reduceIte, decide_eq_true, decide_eq_false, if_pos, if_neg, wrap_in, maxLen, Γ18, e22, h10]; with_reducible rfl)))
      | (apply awp_cond_t; (focus (simp (disch := omega) only [go_sem, ↓reduceIte, decide_eq_true, decide_eq_false, if_pos, if_neg, wrap_in, maxLen, Γ18, e22, h10]; done))) | (apply awp_cond_f; (focus (simp (disch := omega) only [go_sem, ↓reduceIte, decide_eq_true, decide_eq_false, if_pos, if_neg, wrap_in, maxLen, Γ18, e22, h10]; done)))
      | (apply ret_e; (focus (simp (disch := omega) only [go_sem, ↓reduceIte, decide_eq_true, decide_eq_false, if_pos, if_neg, wrap_in, maxLen, Γ18, e22, h10]; with_reducible rfl)); (focus (simp (disch := omega) only [go_sem, ↓reduceIte, decide_eq_true, decide_eq_false, if_pos, if_neg, wrap_in, maxLen, Γ18, e22, h10]; with_reducible rfl))) | (apply end_e; (focus (simp (disch := omega) only [go_sem, ↓reduceIte, decide_eq_true, decide_eq_false, if_pos, if_neg, wrap_in, maxLen, Γ18, e22, h10]; with_reducible rfl)); (focus (simp (disch := omega) only [go_sem, ↓reduceIte, decide_eq_true, decide_eq_false, if_pos, if_neg, wrap_in, maxLen, Γ18, e22, h10]; with_reducible rfl)))
      | rfl)
    rw [hs]
  have hs : duR r l = .tup [.list ((dues r l l).map eN), i64 0] := by simp [duR, h]
  rw [h] at e22
  have hsl := stds_len r l
  repeat (first
    | refine awp_seq ?_ | refine awp_block ?_ | refine awp_ret ?_ | refine awp_skip ?_ | refine awp_exit ?_ | refine awp_label ?_
    | refine then_normal ?_ | refine then_ret ?_ | refine then_exit ?_ | refine block_normal ?_ | refine block_ret ?_ | refine block_exit ?_ | refine block_out rfl ?_
    | (apply awp_reg hΓ; (focus (simp (disch := omega) only [go_sem, ↓reduceIte, ↓map_lit, ↓List.map_cons, ↓List.map_nil, ↓ty_build72, decide_eq_true, decide_eq_false, if_pos, if_neg, wrap_in, maxLen, Γ18, e22, e39, h00, hsl]; with_reducible rfl)))
    | (apply awp_regf mixedOK hΓ (by kernel_rfl); (focus (simp (disch := omega) only [go_sem, ↓reduceIte, ↓map_lit, ↓List.map_cons, ↓List.map_nil, ↓ty_build72, decide_eq_true, decide_eq_false, if_pos, if_neg, wrap_in, maxLen, Γ18, e22, e39, h00, hsl]; with_reducible rfl)); (focus (simp only [go_sem]; with_reducible rfl)))
    | (apply awp_regt mixedOK hΓ rfl; (focus kernel_rfl); (focus (simp (disch := omega) only [go_sem, ↓reduceIte, ↓map_lit, ↓List.map_cons, ↓List.map_nil, ↓ty_build72, decide_eq_true, decide_eq_false, if_pos, if_neg, wrap_in, maxLen, Γ18, e22, e39, h00, hsl]; with_reducible rfl)); (focus (simp only [go_sem]; with_reducible rfl)); (focus (simp (disch := omega) only [go_sem, ↓reduceIte, ↓map_lit, ↓List.map_cons, ↓List.map_nil, ↓ty_build72, decide_eq_true, decide_eq_false, if_pos, if_neg, wrap_in, maxLen, Γ18, e22, e39, h00, hsl]; with_reducible rfl)))
    | (apply awp_cond_t; (focus (simp (disch := omega) only [go_sem, ↓reduceIte, ↓map_lit, ↓List.map_cons, ↓List.map_nil, ↓ty_build72, decide_eq_true, decide_eq_false, if_pos, if_neg, wrap_in, maxLen, Γ18, e22, e39, h00, hsl]; done))) | (apply awp_cond_f; (focus (simp (disch := omega) only [go_sem, ↓reduceIte, ↓map_lit, ↓List.map_cons, ↓List.map_nil, ↓ty_build72, decide_eq_true, decide_eq_false, if_pos, if_neg, wrap_in, maxLen, Γ18, e22, e39, h00, hsl]; done)))
    | (apply ret_e; (focus (simp (disch := omega) only [go_sem, ↓reduceIte, ↓map_lit, ↓List.map_cons, ↓List.map_nil, ↓ty_build72, decide_eq_true, decide_eq_false, if_pos, if_neg, wrap_in, maxLen, Γ18, e22, e39, h00, hsl]; with_reducible rfl)); (focus (simp (disch := omega) only [go_sem, ↓reduceIte, ↓map_lit, ↓List.map_cons, ↓List.map_nil, ↓ty_build72, decide_eq_true, decide_eq_false, if_pos, if_neg, wrap_in, maxLen, Γ18, e22, e39, h00, hsl]; with_reducible rfl))) | (apply end_e; (focus (simp (disch := omega) only [go_sem, ↓reduceIte, ↓map_lit, ↓List.map_cons, ↓List.map_nil, ↓ty_build72, decide_eq_true, decide_eq_false, if_pos, if_neg, wrap_in, maxLen, Γ18, e22, e39, h00, hsl]; with_reducible rfl)); (focus (simp (disch := omega) only [go_sem, ↓reduceIte, ↓map_lit, ↓List.map_cons, ↓List.map_nil, ↓ty_build72, decide_eq_true, decide_eq_false, if_pos, if_neg, wrap_in, maxLen, Γ18, e22, e39, h00, hsl]; with_reducible rfl)))
    | rfl)
  refine awp_loop_at (X := Nat) (fun i => (frame 65 [(1, .data (.list (l.map eN))), (2, .ptr 0 0), (7, .mref 8), (23, .data (.list ((stds r l).map eS))), (24, .data (i64 r.dcs.length)), (25, .data (i64 i))]))
    (fun i => [(0, .box [.data (.list (r.rvs.map eRw)), .data (.list (r.pks.map ePk)), .data (.list (r.dcs.map eDc)), .data (.list (r.dps.map eDp))]), (8, .map (qK (anK r l i)) (qV (anK r l i)))]) 16
    (fun i => i ≤ r.dcs.length) (fun i => r.dcs.length - i) 0 (Nat.zero_le _) (Weak.ofF (by omega) (by simp [ConvF, lookV, Conv, ints, anK, qK, qV]) (by (simp (disch := omega) only [TabSub, look, if_pos, if_neg, Obj.refsOK, refsOKs, AV.refsOK, decide_eq_true_eq, Bool.and_true, Bool.and_self, anK, qK, qV] ) <;> ((repeat' apply And.intro) <;> first | exact True.intro | omega | (simp; done) | rfl)) (by simp (disch := omega) only [refsF, AV.refsOK, Bool.and_true, Bool.and_self, decide_eq_true_eq, Bool.true_and, Bool.and_eq_true]; try omega)) ?_
  · intro i hi
    by_cases hi2 : i < r.dcs.length
    · have hnx := anK_succ (l := l) hi2
      have hst : (stds r l)[i]'(by omega) = ⟨(r.dcs[i]).id, stat r l r.dcs[i]⟩ := by simp [stds]
      generalize hy : r.dcs[i] = y at hnx hst
      have hput := mput_q y.q y.s (anK r l i)
      cases hf : (stat r l y == 1) with
      | true =>
        simp only [anStep, hf, if_true] at hnx
        repeat (first
          | refine awp_seq ?_ | refine awp_block ?_ | refine awp_ret ?_ | refine awp_skip ?_ | refine awp_exit ?_ | refine awp_label ?_
          | refine then_normal ?_ | refine then_ret ?_ | refine then_exit ?_ | refine block_normal ?_ | refine block_ret ?_ | refine block_exit ?_ | refine block_out rfl ?_
          | (apply awp_reg hΓ; (focus (simp (disch := omega) only [go_sem, ↓reduceIte, ↓map_lit, ↓List.map_cons, ↓List.map_nil, decide_eq_true, decide_eq_false, if_pos, if_neg, wrap_in, maxLen, eDc, eS, hy, hst, hsl, hf, ↓ty_build77, ↓keyOK_q, ↓hput]; with_reducible rfl)))
          | (apply awp_regf mixedOK hΓ (by kernel_rfl); (focus (simp (disch := omega) only [go_sem, ↓reduceIte, ↓map_lit, ↓List.map_cons, ↓List.map_nil, decide_eq_true, decide_eq_false, if_pos, if_neg, wrap_in, maxLen, eDc, eS, hy, hst, hsl, hf, ↓ty_build77, ↓keyOK_q, ↓hput]; with_reducible rfl)); (focus (simp only [go_sem]; with_reducible rfl)))
          | (apply awp_regt mixedOK hΓ rfl; (focus kernel_rfl); (focus (simp (disch := omega) only [go_sem, ↓reduceIte, ↓map_lit, ↓List.map_cons, ↓List.map_nil, decide_eq_true, decide_eq_false, if_pos, if_neg, wrap_in, maxLen, eDc, eS, hy, hst, hsl, hf, ↓ty_build77, ↓keyOK_q, ↓hput]; with_reducible rfl)); (focus (simp only [go_sem]; with_reducible rfl)); (focus (simp (disch := omega) only [go_sem, ↓reduceIte, ↓map_lit, ↓List.map_cons, ↓List.map_nil, decide_eq_true, decide_eq_false, if_pos, if_neg, wrap_in, maxLen, eDc, eS, hy, hst, hsl, hf, ↓ty_build77, ↓keyOK_q, ↓hput]; with_reducible rfl)))
          | (apply awp_cond_t; (focus (simp (disch := omega) only [go_sem, ↓reduceIte, ↓map_lit, ↓List.map_cons, ↓List.map_nil, decide_eq_true, decide_eq_false, if_pos, if_neg, wrap_in, maxLen, eDc, eS, hy, hst, hsl, hf, ↓ty_build77, ↓keyOK_q, ↓hput]; done))) | (apply awp_cond_f; (focus (simp (disch := omega) only [go_sem, ↓reduceIte, ↓map_lit, ↓List.map_cons, ↓List.map_nil, decide_eq_true, decide_eq_false, if_pos, if_neg, wrap_in, maxLen, eDc, eS, hy, hst, hsl, hf, ↓ty_build77, ↓keyOK_q, ↓hput]; done)))
          | (apply ret_e; (focus (simp (disch := omega) only [go_sem, ↓reduceIte, ↓map_lit, ↓List.map_cons, ↓List.map_nil, decide_eq_true, decide_eq_false, if_pos, if_neg, wrap_in, maxLen, eDc, eS, hy, hst, hsl, hf, ↓ty_build77, ↓keyOK_q, ↓hput]; with_reducible rfl)); (focus (simp (disch := omega) only [go_sem, ↓reduceIte, ↓map_lit, ↓List.map_cons, ↓List.map_nil, decide_eq_true, decide_eq_false, if_pos, if_neg, wrap_in, maxLen, eDc, eS, hy, hst, hsl, hf, ↓ty_build77, ↓keyOK_q, ↓hput]; with_reducible rfl))) | (apply end_e; (focus (simp (disch := omega) only [go_sem, ↓reduceIte, ↓map_lit, ↓List.map_cons, ↓List.map_nil, decide_eq_true, decide_eq_false, if_pos, if_neg, wrap_in, maxLen, eDc, eS, hy, hst, hsl, hf, ↓ty_build77, ↓keyOK_q, ↓hput]; with_reducible rfl)); (focus (simp (disch := omega) only [go_sem, ↓reduceIte, ↓map_lit, ↓List.map_cons, ↓List.map_nil, decide_eq_true, decide_eq_false, if_pos, if_neg, wrap_in, maxLen, eDc, eS, hy, hst, hsl, hf, ↓ty_build77, ↓keyOK_q, ↓hput]; with_reducible rfl)))
          | rfl)
        exact ⟨i + 1, by omega, by omega, Weak.ofF (by omega) (by simp [ConvF, lookV, Conv, ints, hnx]) (by (simp (disch := omega) only [TabSub, look, if_pos, if_neg, Obj.refsOK, refsOKs, AV.refsOK, decide_eq_true_eq, Bool.and_true, Bool.and_self, hnx] ) <;> ((repeat' apply And.intro) <;> first | exact True.intro | omega | (simp; done) | rfl)) (by simp (disch := omega) only [refsF, AV.refsOK, Bool.and_true, Bool.and_self, decide_eq_true_eq, Bool.true_and, Bool.and_eq_true]; try omega)⟩
      | false =>
        simp only [anStep, hf, Bool.false_eq_true, if_false] at hnx
        repeat (first
          | refine awp_seq ?_ | refine awp_block ?_ | refine awp_ret ?_ | refine awp_skip ?_ | refine awp_exit ?_ | refine awp_label ?_
          | refine then_normal ?_ | refine then_ret ?_ | refine then_exit ?_ | refine block_normal ?_ | refine block_ret ?_ | refine block_exit ?_ | refine block_out rfl ?_
          | (apply awp_reg hΓ; (focus (simp (disch := omega) only [go_sem, ↓reduceIte, decide_eq_true, decide_eq_false, if_pos, if_neg, wrap_in, maxLen, eDc, eS, hy, hst, hsl, hf]; with_reducible rfl)))
          | (apply awp_regf mixedOK hΓ (by kernel_rfl); (focus (simp (disch := omega) only [go_sem, ↓reduceIte, decide_eq_true, decide_eq_false, if_pos, if_neg, wrap_in, maxLen, eDc, eS, hy, hst, hsl, hf]; with_reducible rfl)); (focus (simp only [go_sem]; with_reducible rfl)))
          | (apply awp_regt mixedOK hΓ rfl; (focus kernel_rfl); (focus (simp (disch := omega) only [go_sem, ↓reduceIte, decide_eq_true, decide_eq_false, if_pos, if_neg, wrap_in, maxLen, eDc, eS, hy, hst, hsl, hf]; with_reducible rfl)); (focus (simp only [go_sem]; with_reducible rfl)); (focus (simp (disch := omega) only [go_sem, ↓reduceIte, decide_eq_true, decide_eq_false, if_pos, if_neg, wrap_in, maxLen, eDc, eS, hy, hst, hsl, hf]; with_reducible rfl)))
          | (apply awp_cond_t; (focus (simp (disch := omega) only [go_sem, ↓reduceIte, decide_eq_true, decide_eq_false, if_pos, if_neg, wrap_in, maxLen, eDc, eS, hy, hst, hsl, hf]; done))) | (apply awp_cond_f; (focus (simp (disch := omega) only [go_sem, ↓reduceIte, decide_eq_true, decide_eq_false, if_pos, if_neg, wrap_in, maxLen, eDc, eS, hy, hst, hsl, hf]; done)))
          | (apply ret_e; (focus (simp (disch := omega) only [go_sem, ↓reduceIte, decide_eq_true, decide_eq_false, if_pos, if_neg, wrap_in, maxLen, eDc, eS, hy, hst, hsl, hf]; with_reducible rfl)); (focus (simp (disch := omega) only [go_sem, ↓reduceIte, decide_eq_true, decide_eq_false, if_pos, if_neg, wrap_in, maxLen, eDc, eS, hy, hst, hsl, hf]; with_reducible rfl))) | (apply end_e; (focus (simp (disch := omega) only [go_sem, ↓reduceIte, decide_eq_true, decide_eq_false, if_pos, if_neg, wrap_in, maxLen, eDc, eS, hy, hst, hsl, hf]; with_reducible rfl)); (focus (simp (disch := omega) only [go_sem, ↓reduceIte, decide_eq_true, decide_eq_false, if_pos, if_neg, wrap_in, maxLen, eDc, eS, hy, hst, hsl, hf]; with_reducible rfl)))
          | rfl)
        exact ⟨i + 1, by omega, by omega, Weak.ofF (by omega) (by simp [ConvF, lookV, Conv, ints, hnx]) (by (simp (disch := omega) only [TabSub, look, if_pos, if_neg, Obj.refsOK, refsOKs, AV.refsOK, decide_eq_true_eq, Bool.and_true, Bool.and_self, hnx] ) <;> ((repeat' apply And.intro) <;> first | exact True.intro | omega | (simp; done) | rfl)) (by simp (disch := omega) only [refsF, AV.refsOK, Bool.and_true, Bool.and_self, decide_eq_true_eq, Bool.true_and, Bool.and_eq_true]; try omega)⟩
    have hi3 : i = r.dcs.length := by omega
    subst hi3
    have hop := open1_eq r l
    generalize hks : anK r l r.dcs.length = ks at hop
    repeat (first
      | refine awp_seq ?_ | refine awp_block ?_ | refine awp_ret ?_ | refine awp_skip ?_ | refine awp_exit ?_ | refine awp_label ?_
      | refine then_normal ?_ | refine then_ret ?_ | refine then_exit ?_ | refine block_normal ?_ | refine block_ret ?_ | refine block_exit ?_ | refine block_out rfl ?_
      | (apply awp_reg hΓ; (focus (simp (disch := omega) only [go_sem, ↓reduceIte, decide_eq_true, decide_eq_false, if_pos, if_neg, wrap_in, maxLen]; with_reducible rfl)))
      | (apply awp_regf mixedOK hΓ (by kernel_rfl); (focus (simp (disch := omega) only [go_sem, ↓reduceIte, decide_eq_true, decide_eq_false, if_pos, if_neg, wrap_in, maxLen]; with_reducible rfl)); (focus (simp only [go_sem]; with_reducible rfl)))
      | (apply awp_regt mixedOK hΓ rfl; (focus kernel_rfl); (focus (simp (disch := omega) only [go_sem, ↓reduceIte, decide_eq_true, decide_eq_false, if_pos, if_neg, wrap_in, maxLen]; with_reducible rfl)); (focus (simp only [go_sem]; with_reducible rfl)); (focus (simp (disch := omega) only [go_sem, ↓reduceIte, decide_eq_true, decide_eq_false, if_pos, if_neg, wrap_in, maxLen]; with_reducible rfl)))
      | (apply awp_cond_t; (focus (simp (disch := omega) only [go_sem, ↓reduceIte, decide_eq_true, decide_eq_false, if_pos, if_neg, wrap_in, maxLen]; done))) | (apply awp_cond_f; (focus (simp (disch := omega) only [go_sem, ↓reduceIte, decide_eq_true, decide_eq_false, if_pos, if_neg, wrap_in, maxLen]; done)))
      | (apply ret_e; (focus (simp (disch := omega) only [go_sem, ↓reduceIte, decide_eq_true, decide_eq_false, if_pos, if_neg, wrap_in, maxLen]; with_reducible rfl)); (focus (simp (disch := omega) only [go_sem, ↓reduceIte, decide_eq_true, decide_eq_false, if_pos, if_neg, wrap_in, maxLen]; with_reducible rfl))) | (apply end_e; (focus (simp (disch := omega) only [go_sem, ↓reduceIte, decide_eq_true, decide_eq_false, if_pos, if_neg, wrap_in, maxLen]; with_reducible rfl)); (focus (simp (disch := omega) only [go_sem, ↓reduceIte, decide_eq_true, decide_eq_false, if_pos, if_neg, wrap_in, maxLen]; with_reducible rfl)))
      | rfl)
    refine awp_loop_at (X := Nat) (fun i => (frame 65 [(2, .ptr 0 0), (7, .mref 8), (11, .row 21 (dues r l (l.take i)).length), (45, .data (.list (l.map eN))), (46, .data (i64 l.length)), (47, .data (i64 i))]))
      (fun i => [(0, .box [.data (.list (r.rvs.map eRw)), .data (.list (r.pks.map ePk)), .data (.list (r.dcs.map eDc)), .data (.list (r.dps.map eDp))]), (8, .map (qK ks) (qV ks)), (21, .row 39 3 ((dues r l (l.take i)).map eN))]) 22
      (fun i => i ≤ l.length) (fun i => l.length - i) 0 (Nat.zero_le _) ((Weak.nilrowF (i := 11) 39 (sz := 3) (by omega) (by omega) rfl).trans (Weak.ofF (by omega) (by simp [ConvF, lookV, Conv, ints, dues]) (by (simp (disch := omega) only [TabSub, look, if_pos, if_neg, Obj.refsOK, refsOKs, AV.refsOK, decide_eq_true_eq, Bool.and_true, Bool.and_self, dues] ) <;> ((repeat' apply And.intro) <;> first | exact True.intro | omega | (simp; done) | rfl)) (by simp (disch := omega) only [refsF, AV.refsOK, Bool.and_true, Bool.and_self, decide_eq_true_eq, Bool.true_and, Bool.and_eq_true]; try omega))) ?_
    clear hi hi2
    intro i hi
    have htl : (dues r l (l.take i)).length ≤ i := Nat.le_trans (dues_len _ _ _) (by rw [List.length_take]; omega)
    by_cases hi2 : i < l.length
    · have hnx := dues_succ (r := r) (l := l) hi2
      generalize hacc : dues r l (l.take i) = acc at hnx htl
      generalize hnn : dues r l (l.take (i + 1)) = nn at hnx
      generalize hy : l[i] = y at hnx
      have hget := mget_q y.q y.s ks
      rw [hop] at hnx
      cases hc : ks.contains (y.q, y.s) with
      | true =>
        have hn : nn = acc := by rw [hnx, hc]; simp
        simp only [hc, if_true] at hget
        repeat (first
          | refine awp_seq ?_ | refine awp_block ?_ | refine awp_ret ?_ | refine awp_skip ?_ | refine awp_exit ?_ | refine awp_label ?_
          | refine then_normal ?_ | refine then_ret ?_ | refine then_exit ?_ | refine block_normal ?_ | refine block_ret ?_ | refine block_exit ?_ | refine block_out rfl ?_
          | (apply awp_reg hΓ; (focus (simp (disch := omega) only [go_sem, ↓reduceIte, ↓map_lit, ↓List.map_cons, ↓List.map_nil, decide_eq_true, decide_eq_false, if_pos, if_neg, wrap_in, maxLen, eN, hy, ↓ty_build77, ↓keyOK_q, ↓hget]; with_reducible rfl)))
          | (apply awp_regf mixedOK hΓ (by kernel_rfl); (focus (simp (disch := omega) only [go_sem, ↓reduceIte, ↓map_lit, ↓List.map_cons, ↓List.map_nil, decide_eq_true, decide_eq_false, if_pos, if_neg, wrap_in, maxLen, eN, hy, ↓ty_build77, ↓keyOK_q, ↓hget]; with_reducible rfl)); (focus (simp only [go_sem]; with_reducible rfl)))
          | (apply awp_regt mixedOK hΓ rfl; (focus kernel_rfl); (focus (simp (disch := omega) only [go_sem, ↓reduceIte, ↓map_lit, ↓List.map_cons, ↓List.map_nil, decide_eq_true, decide_eq_false, if_pos, if_neg, wrap_in, maxLen, eN, hy, ↓ty_build77, ↓keyOK_q, ↓hget]; with_reducible rfl)); (focus (simp only [go_sem]; with_reducible rfl)); (focus (simp (disch := omega) only [go_sem, ↓reduceIte, ↓map_lit, ↓List.map_cons, ↓List.map_nil, decide_eq_true, decide_eq_false, if_pos, if_neg, wrap_in, maxLen, eN, hy, ↓ty_build77, ↓keyOK_q, ↓hget]; with_reducible rfl)))
          | (apply awp_cond_t; (focus (simp (disch := omega) only [go_sem, ↓reduceIte, ↓map_lit, ↓List.map_cons, ↓List.map_nil, decide_eq_true, decide_eq_false, if_pos, if_neg, wrap_in, maxLen, eN, hy, ↓ty_build77, ↓keyOK_q, ↓hget]; done))) | (apply awp_cond_f; (focus (simp (disch := omega) only [go_sem, ↓reduceIte, ↓map_lit, ↓List.map_cons, ↓List.map_nil, decide_eq_true, decide_eq_false, if_pos, if_neg, wrap_in, maxLen, eN, hy, ↓ty_build77, ↓keyOK_q, ↓hget]; done)))
          | (apply ret_e; (focus (simp (disch := omega) only [go_sem, ↓reduceIte, ↓map_lit, ↓List.map_cons, ↓List.map_nil, decide_eq_true, decide_eq_false, if_pos, if_neg, wrap_in, maxLen, eN, hy, ↓ty_build77, ↓keyOK_q, ↓hget]; with_reducible rfl)); (focus (simp (disch := omega) only [go_sem, ↓reduceIte, ↓map_lit, ↓List.map_cons, ↓List.map_nil, decide_eq_true, decide_eq_false, if_pos, if_neg, wrap_in, maxLen, eN, hy, ↓ty_build77, ↓keyOK_q, ↓hget]; with_reducible rfl))) | (apply end_e; (focus (simp (disch := omega) only [go_sem, ↓reduceIte, ↓map_lit, ↓List.map_cons, ↓List.map_nil, decide_eq_true, decide_eq_false, if_pos, if_neg, wrap_in, maxLen, eN, hy, ↓ty_build77, ↓keyOK_q, ↓hget]; with_reducible rfl)); (focus (simp (disch := omega) only [go_sem, ↓reduceIte, ↓map_lit, ↓List.map_cons, ↓List.map_nil, decide_eq_true, decide_eq_false, if_pos, if_neg, wrap_in, maxLen, eN, hy, ↓ty_build77, ↓keyOK_q, ↓hget]; with_reducible rfl)))
          | rfl)
        exact ⟨i + 1, by omega, by omega, Weak.ofF (by omega) (by simp [ConvF, lookV, Conv, ints, hnn, hn]) (by (simp (disch := omega) only [TabSub, look, if_pos, if_neg, Obj.refsOK, refsOKs, AV.refsOK, decide_eq_true_eq, Bool.and_true, Bool.and_self, hnn, hn] ) <;> ((repeat' apply And.intro) <;> first | exact True.intro | omega | (simp; done) | rfl)) (by simp (disch := omega) only [refsF, AV.refsOK, Bool.and_true, Bool.and_self, decide_eq_true_eq, Bool.true_and, Bool.and_eq_true]; try omega)⟩
      | false =>
        have hn : nn = acc ++ [y] := by rw [hnx, hc]; simp
        have hm : acc.map eN ++ [.agg [.str y.q, .str y.s, .str y.d]] = nn.map eN := by rw [hn]; simp [eN]
        have hl : nn.length = acc.length + 1 := by rw [hn]; simp
        simp only [hc, Bool.false_eq_true, if_false] at hget
        repeat (first
          | refine awp_seq ?_ | refine awp_block ?_ | refine awp_ret ?_ | refine awp_skip ?_ | refine awp_exit ?_ | refine awp_label ?_
          | refine then_normal ?_ | refine then_ret ?_ | refine then_exit ?_ | refine block_normal ?_ | refine block_ret ?_ | refine block_exit ?_ | refine block_out rfl ?_
          | (apply awp_reg hΓ; (focus (simp (disch := omega) only [go_sem, ↓reduceIte, ↓map_lit, ↓List.map_cons, ↓List.map_nil, decide_eq_true, decide_eq_false, if_pos, if_neg, wrap_in, maxLen, eN, hy, ↓ty_build77, ↓keyOK_q, ↓hget]; with_reducible rfl)))
          | (apply awp_regf mixedOK hΓ (by kernel_rfl); (focus (simp (disch := omega) only [go_sem, ↓reduceIte, ↓map_lit, ↓List.map_cons, ↓List.map_nil, decide_eq_true, decide_eq_false, if_pos, if_neg, wrap_in, maxLen, eN, hy, ↓ty_build77, ↓keyOK_q, ↓hget]; with_reducible rfl)); (focus (simp only [go_sem]; with_reducible rfl)))
          | (apply awp_regt mixedOK hΓ rfl; (focus kernel_rfl); (focus (simp (disch := omega) only [go_sem, ↓reduceIte, ↓map_lit, ↓List.map_cons, ↓List.map_nil, decide_eq_true, decide_eq_false, if_pos, if_neg, wrap_in, maxLen, eN, hy, ↓ty_build77, ↓keyOK_q, ↓hget]; with_reducible rfl)); (focus (simp only [go_sem]; with_reducible rfl)); (focus (simp (disch := omega) only [go_sem, ↓reduceIte, ↓map_lit, ↓List.map_cons, ↓List.map_nil, decide_eq_true, decide_eq_false, if_pos, if_neg, wrap_in, maxLen, eN, hy, ↓ty_build77, ↓keyOK_q, ↓hget]; with_reducible rfl)))
          | (apply awp_cond_t; (focus (simp (disch := omega) only [go_sem, ↓reduceIte, ↓map_lit, ↓List.map_cons, ↓List.map_nil, decide_eq_true, decide_eq_false, if_pos, if_neg, wrap_in, maxLen, eN, hy, ↓ty_build77, ↓keyOK_q, ↓hget]; done))) | (apply awp_cond_f; (focus (simp (disch := omega) only [go_sem, ↓reduceIte, ↓map_lit, ↓List.map_cons, ↓List.map_nil, decide_eq_true, decide_eq_false, if_pos, if_neg, wrap_in, maxLen, eN, hy, ↓ty_build77, ↓keyOK_q, ↓hget]; done)))
          | (apply ret_e; (focus (simp (disch := omega) only [go_sem, ↓reduceIte, ↓map_lit, ↓List.map_cons, ↓List.map_nil, decide_eq_true, decide_eq_false, if_pos, if_neg, wrap_in, maxLen, eN, hy, ↓ty_build77, ↓keyOK_q, ↓hget]; with_reducible rfl)); (focus (simp (disch := omega) only [go_sem, ↓reduceIte, ↓map_lit, ↓List.map_cons, ↓List.map_nil, decide_eq_true, decide_eq_false, if_pos, if_neg, wrap_in, maxLen, eN, hy, ↓ty_build77, ↓keyOK_q, ↓hget]; with_reducible rfl))) | (apply end_e; (focus (simp (disch := omega) only [go_sem, ↓reduceIte, ↓map_lit, ↓List.map_cons, ↓List.map_nil, decide_eq_true, decide_eq_false, if_pos, if_neg, wrap_in, maxLen, eN, hy, ↓ty_build77, ↓keyOK_q, ↓hget]; with_reducible rfl)); (focus (simp (disch := omega) only [go_sem, ↓reduceIte, ↓map_lit, ↓List.map_cons, ↓List.map_nil, decide_eq_true, decide_eq_false, if_pos, if_neg, wrap_in, maxLen, eN, hy, ↓ty_build77, ↓keyOK_q, ↓hget]; with_reducible rfl)))
          | rfl)
        exact ⟨i + 1, by omega, by omega, Weak.ofF (by omega) (by simp [ConvF, lookV, Conv, ints, hnn, hl, hm]) (by (simp (disch := omega) only [TabSub, look, if_pos, if_neg, Obj.refsOK, refsOKs, AV.refsOK, decide_eq_true_eq, Bool.and_true, Bool.and_self, hnn, hl, hm] ) <;> ((repeat' apply And.intro) <;> first | exact True.intro | omega | (simp; done) | rfl)) (by simp (disch := omega) only [refsF, AV.refsOK, Bool.and_true, Bool.and_self, decide_eq_true_eq, Bool.true_and, Bool.and_eq_true]; try omega)⟩
    have hi3 : i = l.length := by omega
    subst hi3
    rw [List.take_length] at htl ⊢
    repeat (first
      | refine awp_seq ?_ | refine awp_block ?_ | refine awp_ret ?_ | refine awp_skip ?_ | refine awp_exit ?_ | refine awp_label ?_
      | refine then_normal ?_ | refine then_ret ?_ | refine then_exit ?_ | refine block_normal ?_ | refine block_ret ?_ | refine block_exit ?_ | refine block_out rfl ?_
      | (apply awp_reg hΓ; (focus (simp (disch := omega) only [go_sem, ↓reduceIte, decide_eq_true, decide_eq_false, if_pos, if_neg, wrap_in, maxLen]; with_reducible rfl)))
      | (apply awp_regf mixedOK hΓ (by kernel_rfl); (focus (simp (disch := omega) only [go_sem, ↓reduceIte, decide_eq_true, decide_eq_false, if_pos, if_neg, wrap_in, maxLen]; with_reducible rfl)); (focus (simp only [go_sem]; with_reducible rfl)))
      | (apply awp_regt mixedOK hΓ rfl; (focus kernel_rfl); (focus (simp (disch := omega) only [go_sem, ↓reduceIte, decide_eq_true, decide_eq_false, if_pos, if_neg, wrap_in, maxLen]; with_reducible rfl)); (focus (simp only [go_sem]; with_reducible rfl)); (focus (simp (disch := omega) only [go_sem, ↓reduceIte, decide_eq_true, decide_eq_false, if_pos, if_neg, wrap_in, maxLen]; with_reducible rfl)))
      | (apply awp_cond_t; (focus (simp (disch := omega) only [go_sem, ↓reduceIte, decide_eq_true, decide_eq_false, if_pos, if_neg, wrap_in, maxLen]; done))) | (apply awp_cond_f; (focus (simp (disch := omega) only [go_sem, ↓reduceIte, decide_eq_true, decide_eq_false, if_pos, if_neg, wrap_in, maxLen]; done)))
      | (apply ret_e; (focus (simp (disch := omega) only [go_sem, ↓reduceIte, decide_eq_true, decide_eq_false, if_pos, if_neg, wrap_in, maxLen]; with_reducible rfl)); (focus (simp (disch := omega) only [go_sem, ↓reduceIte, decide_eq_true, decide_eq_false, if_pos, if_neg, wrap_in, maxLen]; with_reducible rfl))) | (apply end_e; (focus (simp (disch := omega) only [go_sem, ↓reduceIte, decide_eq_true, decide_eq_false, if_pos, if_neg, wrap_in, maxLen]; with_reducible rfl)); (focus (simp (disch := omega) only [go_sem, ↓reduceIte, decide_eq_true, decide_eq_false, if_pos, if_neg, wrap_in, maxLen]; with_reducible rfl)))
      | rfl)
    rw [hs]
end Go.Ab
