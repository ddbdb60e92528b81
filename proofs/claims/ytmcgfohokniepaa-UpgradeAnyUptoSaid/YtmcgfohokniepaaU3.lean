/-
  One text of the proof (own work): contracts of functions of the program, by the abstract machine.
-/
import Derived.Test.YtmcgfohokniepaaU2
set_option linter.unusedVariables false
set_option linter.unusedSimpArgs false
namespace Go.Ab
open Go Go.RowKit Go.Proofs
set_option maxRecDepth 4000
set_option maxHeartbeats 4000000

/-! ### Search -/
def idx {α : Type} (p : α → Bool) (l : List α) : Int := match l.findIdx? p with
  | some i => i
  | none => -1
theorem idx_at {α : Type} {p : α → Bool} {l : List α} {i : Nat} (hi : i < l.length) (hp : p l[i] = true) (hb : (l.take i).any p = false) : idx p l = i := by
  have h : l.findIdx? p = some i := by
    rw [List.findIdx?_eq_some_iff_getElem]
    refine ⟨hi, hp, fun j hj => ?_⟩
    have h1 := List.any_eq_false.1 hb (l[j]) (by
      rw [List.mem_take_iff_getElem]
      exact ⟨j, by omega, rfl⟩)
    exact h1
  simp [idx, h]
theorem idx_none {α : Type} {p : α → Bool} {l : List α} (h : l.any p = false) : idx p l = -1 := by
  have : l.findIdx? p = none := by
    rw [List.findIdx?_eq_none_iff]
    intro x hx
    have := List.any_eq_false.1 h x hx
    simpa using this
  simp [idx, this]
theorem idx_nonneg {α : Type} {p : α → Bool} {l : List α} : decide (0 ≤ idx p l) = l.any p := by
  unfold idx
  cases h : l.findIdx? p with
  | none =>
    rw [List.findIdx?_eq_none_iff] at h
    have h2 : l.any p = false := List.any_eq_false.2 fun x hx => by simp [h x hx]
    rw [h2]; rfl
  | some i =>
    obtain ⟨h1, h2, _⟩ := List.findIdx?_eq_some_iff_getElem.1 h
    have h3 : l.any p = true := List.any_eq_true.2 ⟨_, List.getElem_mem h1, h2⟩
    rw [h3]
    simp
theorem any_next {α : Type} {p : α → Bool} {l : List α} {i : Nat} (hi : i < l.length) (hb : (l.take i).any p = false) (hp : p l[i] = false) : (l.take (i + 1)).any p = false := by
  rw [List.take_add_one, List.any_append, hb, List.getElem?_eq_getElem hi]
  simp [hp]

noncomputable def gIdx {α : Type} (e : α → D) (f : FuncId) (caps : List D) (p : α → Bool) : List D → Option D := encSpec (fun l : List α => [.list (l.map e), .clo f caps]) (fun l => l.length ≤ 1099511627776) (fun l => i64 (idx p l))
theorem gIdx_eq {α : Type} {e : α → D} (he : ∀ a b, e a = e b → a = b) {f : FuncId} {caps : List D} {p : α → Bool} {l : List α} (h : l.length ≤ 1099511627776) : gIdx e f caps p [.list (l.map e), .clo f caps] = some (.int .i64 (idx p l)) :=
  encSpec_eq (x := l) h fun y hy => by
    simp only [List.cons.injEq, D.list.injEq, and_true] at hy
    rw [List.map_inj_right he |>.1 hy]
noncomputable def gAny {α : Type} (e : α → D) (f : FuncId) (caps : List D) (p : α → Bool) : List D → Option D := encSpec (fun l : List α => [.list (l.map e), .clo f caps]) (fun l => l.length ≤ 1099511627776) (fun l => .bool (l.any p))
theorem gAny_eq {α : Type} {e : α → D} (he : ∀ a b, e a = e b → a = b) {f : FuncId} {caps : List D} {p : α → Bool} {l : List α} (h : l.length ≤ 1099511627776) : gAny e f caps p [.list (l.map e), .clo f caps] = some (.bool (l.any p)) :=
  encSpec_eq (x := l) h fun y hy => by
    simp only [List.cons.injEq, D.list.injEq, and_true] at hy
    rw [List.map_inj_right he |>.1 hy]
noncomputable def Γc (f : FuncId) (g : List D → Option D) : FuncId → Option CSpec := fun x => if x = f then some (.pure true g) else none
theorem Γc_ok {f : FuncId} {g : List D → Option D} (h : PureOK Try.prog f true g) : ∀ x s, Γc f g x = some s → SpecOK Try.prog x s := by
  intro x s hx
  unfold Γc at hx
  split at hx
  · rename_i hf; cases hx; subst hf; exact h
  · cases hx
/-! ### The state -/
structure Rw where
  name : List UInt8
  root : List UInt8
  bits : Int
  height : Int
  next : Int
structure Pk where
  name : List UInt8
  dig : List UInt8
  up : Int
structure Dc where
  id : List UInt8
  author : List UInt8
  q : List UInt8
  s : List UInt8
  ans : List UInt8
  dig : List UInt8
  til : Int
  w : Bool
  o : Bool
  rp : Bool
structure Dp where
  l : List UInt8
  r : List UInt8
structure Rev where
  rvs : List Rw
  pks : List Pk
  dcs : List Dc
  dps : List Dp
@[go_sem] def eRw (x : Rw) : D := .agg [.str x.name, .str x.root, i64 x.bits, i64 x.height, i64 x.next]
@[go_sem] def ePk (x : Pk) : D := .agg [.str x.name, .str x.dig, i64 x.up]
@[go_sem] def eDc (x : Dc) : D := .agg [.str x.id, .str x.author, .str x.q, .str x.s, .str x.ans, .str x.dig, i64 x.til, .bool x.w, .bool x.o, .bool x.rp]
@[go_sem] def eDp (x : Dp) : D := .agg [.str x.l, .str x.r]
@[go_sem] def eR (x : Rev) : D := .agg [.list (x.rvs.map eRw), .list (x.pks.map ePk), .list (x.dcs.map eDc), .list (x.dps.map eDp)]
@[go_sem] def eV (x : Rev) (l : List Now) : D := .agg [.list (x.rvs.map eRw), .list (x.pks.map ePk), .list (x.dcs.map eDc), .list (x.dps.map eDp), .list (l.map eN)]
theorem eRw_inj (a b : Rw) (h : eRw a = eRw b) : a = b := by cases a; cases b; simp [eRw] at h; simp [h]
theorem ePk_inj (a b : Pk) (h : ePk a = ePk b) : a = b := by cases a; cases b; simp [ePk] at h; simp [h]
theorem eDc_inj (a b : Dc) (h : eDc a = eDc b) : a = b := by cases a; cases b; simp [eDc] at h; simp [h]
theorem eDp_inj (a b : Dp) (h : eDp a = eDp b) : a = b := by cases a; cases b; simp [eDp] at h; simp [h]
theorem eR_inj (a b : Rev) (h : eR a = eR b) : a = b := by
  cases a; cases b
  simp only [eR, D.agg.injEq, List.cons.injEq, D.list.injEq, and_true] at h
  obtain ⟨h1, h2, h3, h4⟩ := h
  rw [map_inj eRw_inj h1, map_inj ePk_inj h2, map_inj eDc_inj h3, map_inj eDp_inj h4]
theorem eV_inj {a b : Rev} {l m : List Now} (h : eV a l = eV b m) : a = b ∧ l = m := by
  cases a; cases b
  simp only [eV, D.agg.injEq, List.cons.injEq, D.list.injEq, and_true] at h
  obtain ⟨h1, h2, h3, h4, h5⟩ := h
  rw [map_inj eRw_inj h1, map_inj ePk_inj h2, map_inj eDc_inj h3, map_inj eDp_inj h4, map_inj eN_inj h5]
  exact ⟨rfl, rfl⟩
structure SzR (r : Rev) : Prop where
  rvs : r.rvs.length ≤ 1099511627776
  pks : r.pks.length ≤ 1099511627776
  dcs : r.dcs.length ≤ 1099511627776
  dps : r.dps.length ≤ 1099511627776
/-! ### Entries -/
theorem eq39 (a b : Now) : eqAgg Try.prog 39 [.str a.q, .str a.s, .str a.d] [.str b.q, .str b.s, .str b.d] = some (decide (a = b)) := by
  have hu : Program.underlying Try.prog 39 = some (.struct #[⟨"Question", 9, 0, false, "", "", 0⟩, ⟨"Scope", 9, 1, false, "", "", 16⟩, ⟨"Digest", 9, 2, false, "", "", 32⟩]) := by kernel_rfl
  have hg : (Try.prog.stoodInHeld 39 || Try.prog.eqGuardType Try.prog.depth 39) = false := by kernel_rfl
  have e : decide (a = b) = ((a.q == b.q) && ((a.s == b.s) && ((a.d == b.d) && true))) := by
    rw [Bool.eq_iff_iff]
    cases a; cases b
    simp
  unfold eqAgg
  rw [hu]
  simp only [hg, Bool.false_eq_true, if_false, e]
  simp [eqFlds, keyKind, keyEq, ty_und9, ty_agg9]
def has (l : List Now) (x : Now) : Bool := l.any fun y => decide (y = x)
noncomputable def g49 : List D → Option D := encSpec (fun x : List Now × Now => [.list (x.1.map eN), eN x.2]) (fun x => x.1.length ≤ 1099511627776) (fun x => i64 (idx (fun y => decide (y = x.2)) x.1))
theorem g49_eq {l : List Now} {x : Now} (h : l.length ≤ 1099511627776) : g49 [.list (l.map eN), .agg [.str x.q, .str x.s, .str x.d]] = some (.int .i64 (idx (fun y => decide (y = x)) l)) := encSpec_eq (x := (l, x)) h fun y hy => by
  obtain ⟨y1, y2⟩ := y
  simp only [List.cons.injEq, D.list.injEq, and_true] at hy
  rw [map_inj eN_inj hy.1, eN_inj _ _ hy.2]
theorem f49_ok : PureOK Try.prog 49 true g49 := by
  have hΓ := Γ0_ok
  refine pure_enc (n := 19) (rs := [.tmp 4]) Try.func49 (by kernel_rfl) rfl (by kernel_rfl) (by kernel_rfl) ?_
  rintro ⟨l, x⟩ hl
  dsimp only at hl ⊢
  refine ⟨fun _ => .int _ _, fun k hz0 => ?_⟩
  rw [start_frame (by simp)]; simp only [enumV, go_sem, emptyH]
  repeat (first
    | refine awp_seq ?_ | refine awp_block ?_ | refine awp_ret ?_ | refine awp_skip ?_ | refine awp_exit ?_ | refine awp_label ?_
    | refine then_normal ?_ | refine then_ret ?_ | refine then_exit ?_ | refine block_normal ?_ | refine block_ret ?_ | refine block_exit ?_ | refine block_out rfl ?_
    | (apply awp_reg hΓ; (focus (simp (disch := omega) only [go_sem, ↓reduceIte, decide_eq_true, decide_eq_false, if_pos, if_neg, wrap_in, maxLen, eN]; with_reducible rfl)))
    | (apply awp_regf mixedOK hΓ (by kernel_rfl); (focus (simp (disch := omega) only [go_sem, ↓reduceIte, decide_eq_true, decide_eq_false, if_pos, if_neg, wrap_in, maxLen, eN]; with_reducible rfl)); (focus (simp only [go_sem]; with_reducible rfl)))
    | (apply awp_regt mixedOK hΓ rfl; (focus kernel_rfl); (focus (simp (disch := omega) only [go_sem, ↓reduceIte, decide_eq_true, decide_eq_false, if_pos, if_neg, wrap_in, maxLen, eN]; with_reducible rfl)); (focus (simp only [go_sem]; with_reducible rfl)); (focus (simp (disch := omega) only [go_sem, ↓reduceIte, decide_eq_true, decide_eq_false, if_pos, if_neg, wrap_in, maxLen, eN]; with_reducible rfl)))
    | (apply awp_cond_t; (focus (simp (disch := omega) only [go_sem, ↓reduceIte, decide_eq_true, decide_eq_false, if_pos, if_neg, wrap_in, maxLen, eN]; done))) | (apply awp_cond_f; (focus (simp (disch := omega) only [go_sem, ↓reduceIte, decide_eq_true, decide_eq_false, if_pos, if_neg, wrap_in, maxLen, eN]; done)))
    | (apply ret_e; (focus (simp (disch := omega) only [go_sem, ↓reduceIte, decide_eq_true, decide_eq_false, if_pos, if_neg, wrap_in, maxLen, eN]; with_reducible rfl)); (focus (simp (disch := omega) only [go_sem, ↓reduceIte, decide_eq_true, decide_eq_false, if_pos, if_neg, wrap_in, maxLen, eN]; with_reducible rfl))) | (apply end_e; (focus (simp (disch := omega) only [go_sem, ↓reduceIte, decide_eq_true, decide_eq_false, if_pos, if_neg, wrap_in, maxLen, eN]; with_reducible rfl)); (focus (simp (disch := omega) only [go_sem, ↓reduceIte, decide_eq_true, decide_eq_false, if_pos, if_neg, wrap_in, maxLen, eN]; with_reducible rfl)))
    | rfl)
  refine awp_loop_at (X := Nat) (fun i => (frame 19 [(0, .data (.list (l.map eN))), (3, .ptr 0 0), (7, .data (i64 l.length)), (8, .data (i64 i))])) (fun _ => [(0, .box [.data (.str x.q), .data (.str x.s), .data (.str x.d)])]) 1
    (fun i => i ≤ l.length ∧ (l.take i).any (fun y => decide (y = x)) = false) (fun i => l.length - i) 0 ⟨Nat.zero_le _, rfl⟩ (Weak.ofF (by omega) (by simp [ConvF, lookV, Conv, ints]) (by (simp (disch := omega) only [TabSub, look, if_pos, if_neg, Obj.refsOK, refsOKs, AV.refsOK, decide_eq_true_eq, Bool.and_true, Bool.and_self] ) <;> ((repeat' apply And.intro) <;> first | exact True.intro | omega | (simp; done) | rfl)) (by simp (disch := omega) only [refsF, AV.refsOK, Bool.and_true, Bool.and_self, decide_eq_true_eq, Bool.true_and, Bool.and_eq_true]; try omega)) ?_
  rintro i ⟨hi, hpre⟩
  by_cases hi2 : i < l.length
  · have he := eq39 x l[i]
    by_cases hx : l[i] = x
    · have hid := idx_at (p := fun y => decide (y = x)) hi2 (by simpa using hx) hpre
      rw [decide_eq_true hx.symm] at he
      generalize hy : l[i] = y at *
      repeat (first
        | refine awp_seq ?_ | refine awp_block ?_ | refine awp_ret ?_ | refine awp_skip ?_ | refine awp_exit ?_ | refine awp_label ?_
        | refine then_normal ?_ | refine then_ret ?_ | refine then_exit ?_ | refine block_normal ?_ | refine block_ret ?_ | refine block_exit ?_ | refine block_out rfl ?_
        | (apply awp_reg hΓ; (focus (simp (disch := omega) only [go_sem, ↓reduceIte, decide_eq_true, decide_eq_false, if_pos, if_neg, wrap_in, maxLen, eN, hy, ↓he]; with_reducible rfl)))
        | (apply awp_regf mixedOK hΓ (by kernel_rfl); (focus (simp (disch := omega) only [go_sem, ↓reduceIte, decide_eq_true, decide_eq_false, if_pos, if_neg, wrap_in, maxLen, eN, hy, ↓he]; with_reducible rfl)); (focus (simp only [go_sem]; with_reducible rfl)))
        | (apply awp_regt mixedOK hΓ rfl; (focus kernel_rfl); (focus (simp (disch := omega) only [go_sem, ↓reduceIte, decide_eq_true, decide_eq_false, if_pos, if_neg, wrap_in, maxLen, eN, hy, ↓he]; with_reducible rfl)); (focus (simp only [go_sem]; with_reducible rfl)); (focus (simp (disch := omega) only [go_sem, ↓reduceIte, decide_eq_true, decide_eq_false, if_pos, if_neg, wrap_in, maxLen, eN, hy, ↓he]; with_reducible rfl)))
        | (apply awp_cond_t; (focus (simp (disch := omega) only [go_sem, ↓reduceIte, decide_eq_true, decide_eq_false, if_pos, if_neg, wrap_in, maxLen, eN, hy, ↓he]; done))) | (apply awp_cond_f; (focus (simp (disch := omega) only [go_sem, ↓reduceIte, decide_eq_true, decide_eq_false, if_pos, if_neg, wrap_in, maxLen, eN, hy, ↓he]; done)))
        | (apply ret_e; (focus (simp (disch := omega) only [go_sem, ↓reduceIte, decide_eq_true, decide_eq_false, if_pos, if_neg, wrap_in, maxLen, eN, hy, ↓he]; with_reducible rfl)); (focus (simp (disch := omega) only [go_sem, ↓reduceIte, decide_eq_true, decide_eq_false, if_pos, if_neg, wrap_in, maxLen, eN, hy, ↓he]; with_reducible rfl))) | (apply end_e; (focus (simp (disch := omega) only [go_sem, ↓reduceIte, decide_eq_true, decide_eq_false, if_pos, if_neg, wrap_in, maxLen, eN, hy, ↓he]; with_reducible rfl)); (focus (simp (disch := omega) only [go_sem, ↓reduceIte, decide_eq_true, decide_eq_false, if_pos, if_neg, wrap_in, maxLen, eN, hy, ↓he]; with_reducible rfl)))
        | rfl)
      rw [hid]
    · have hn := any_next (p := fun y => decide (y = x)) hi2 hpre (by simpa using hx)
      rw [decide_eq_false (fun h => hx h.symm)] at he
      generalize hy : l[i] = y at *
      repeat (first
        | refine awp_seq ?_ | refine awp_block ?_ | refine awp_ret ?_ | refine awp_skip ?_ | refine awp_exit ?_ | refine awp_label ?_
        | refine then_normal ?_ | refine then_ret ?_ | refine then_exit ?_ | refine block_normal ?_ | refine block_ret ?_ | refine block_exit ?_ | refine block_out rfl ?_
        | (apply awp_reg hΓ; (focus (simp (disch := omega) only [go_sem, ↓reduceIte, decide_eq_true, decide_eq_false, if_pos, if_neg, wrap_in, maxLen, eN, hy, ↓he]; with_reducible rfl)))
        | (apply awp_regf mixedOK hΓ (by kernel_rfl); (focus (simp (disch := omega) only [go_sem, ↓reduceIte, decide_eq_true, decide_eq_false, if_pos, if_neg, wrap_in, maxLen, eN, hy, ↓he]; with_reducible rfl)); (focus (simp only [go_sem]; with_reducible rfl)))
        | (apply awp_regt mixedOK hΓ rfl; (focus kernel_rfl); (focus (simp (disch := omega) only [go_sem, ↓reduceIte, decide_eq_true, decide_eq_false, if_pos, if_neg, wrap_in, maxLen, eN, hy, ↓he]; with_reducible rfl)); (focus (simp only [go_sem]; with_reducible rfl)); (focus (simp (disch := omega) only [go_sem, ↓reduceIte, decide_eq_true, decide_eq_false, if_pos, if_neg, wrap_in, maxLen, eN, hy, ↓he]; with_reducible rfl)))
        | (apply awp_cond_t; (focus (simp (disch := omega) only [go_sem, ↓reduceIte, decide_eq_true, decide_eq_false, if_pos, if_neg, wrap_in, maxLen, eN, hy, ↓he]; done))) | (apply awp_cond_f; (focus (simp (disch := omega) only [go_sem, ↓reduceIte, decide_eq_true, decide_eq_false, if_pos, if_neg, wrap_in, maxLen, eN, hy, ↓he]; done)))
        | (apply ret_e; (focus (simp (disch := omega) only [go_sem, ↓reduceIte, decide_eq_true, decide_eq_false, if_pos, if_neg, wrap_in, maxLen, eN, hy, ↓he]; with_reducible rfl)); (focus (simp (disch := omega) only [go_sem, ↓reduceIte, decide_eq_true, decide_eq_false, if_pos, if_neg, wrap_in, maxLen, eN, hy, ↓he]; with_reducible rfl))) | (apply end_e; (focus (simp (disch := omega) only [go_sem, ↓reduceIte, decide_eq_true, decide_eq_false, if_pos, if_neg, wrap_in, maxLen, eN, hy, ↓he]; with_reducible rfl)); (focus (simp (disch := omega) only [go_sem, ↓reduceIte, decide_eq_true, decide_eq_false, if_pos, if_neg, wrap_in, maxLen, eN, hy, ↓he]; with_reducible rfl)))
        | rfl)
      exact ⟨i + 1, ⟨by omega, hn⟩, by omega, Weak.ofF (by omega) (by simp [ConvF, lookV, Conv, ints]) (by (simp (disch := omega) only [TabSub, look, if_pos, if_neg, Obj.refsOK, refsOKs, AV.refsOK, decide_eq_true_eq, Bool.and_true, Bool.and_self] ) <;> ((repeat' apply And.intro) <;> first | exact True.intro | omega | (simp; done) | rfl)) (by simp (disch := omega) only [refsF, AV.refsOK, Bool.and_true, Bool.and_self, decide_eq_true_eq, Bool.true_and, Bool.and_eq_true]; try omega)⟩
  · have hi' : i = l.length := by omega
    subst hi'
    rw [List.take_length] at hpre
    have hid := idx_none hpre
    repeat (first
      | refine awp_seq ?_ | refine awp_block ?_ | refine awp_ret ?_ | refine awp_skip ?_ | refine awp_exit ?_ | refine awp_label ?_
      | refine then_normal ?_ | refine then_ret ?_ | refine then_exit ?_ | refine block_normal ?_ | refine block_ret ?_ | refine block_exit ?_ | refine block_out rfl ?_
      | (apply awp_reg hΓ; (focus (simp (disch := omega) only [go_sem, ↓reduceIte, decide_eq_true, decide_eq_false, if_pos, if_neg, wrap_in, maxLen]; with_reducible rfl)))
      | (apply awp_regf mixedOK hΓ (by kernel_rfl); (focus (simp (disch := omega) only [go_sem, ↓reduceIte, decide_eq_true, decide_eq_false, if_pos, if_neg, wrap_in, maxLen]; with_reducible rfl)); (focus (simp only [go_sem]; with_reducible rfl)))
      | (apply awp_regt mixedOK hΓ rfl; (focus kernel_rfl); (focus (simp (disch := omega) only [go_sem, ↓reduceIte, decide_eq_true, decide_eq_false, if_pos, if_neg, wrap_in, maxLen]; with_reducible rfl)); (focus (simp only [go_sem]; with_reducible rfl)); (focus (simp (disch := omega) only [go_sem, ↓reduceIte, decide_eq_true, decide_eq_false, if_pos, if_neg, wrap_in, maxLen]; with_reducible rfl)))
      | (apply awp_cond_t; (focus (simp (disch := omega) only [go_sem, ↓reduceIte, decide_eq_true, decide_eq_false, if_pos, if_neg, wrap_in, maxLen]; done))) | (apply awp_cond_f; (focus (simp (disch := omega) only [go_sem, ↓reduceIte, decide_eq_true, decide_eq_false, if_pos, if_neg, wrap_in, maxLen]; done)))
      | (apply ret_e; (focus (simp (disch := omega) only [go_sem, ↓reduceIte, decide_eq_true, decide_eq_false, if_pos, if_neg, wrap_in, maxLen]; with_reducible rfl)); (focus (simp (disch := omega) only [go_sem, ↓reduceIte, decide_eq_true, decide_eq_false, if_pos, if_neg, wrap_in, maxLen]; with_reducible rfl))) | (apply end_e; (focus (simp (disch := omega) only [go_sem, ↓reduceIte, decide_eq_true, decide_eq_false, if_pos, if_neg, wrap_in, maxLen]; with_reducible rfl)); (focus (simp (disch := omega) only [go_sem, ↓reduceIte, decide_eq_true, decide_eq_false, if_pos, if_neg, wrap_in, maxLen]; with_reducible rfl)))
      | rfl)
    rw [hid]
noncomputable def g31 : List D → Option D := encSpec (fun x : List Now × Now => [.list (x.1.map eN), eN x.2]) (fun x => x.1.length ≤ 1099511627776) (fun x => .bool (has x.1 x.2))
theorem g31_eq {l : List Now} {x : Now} (h : l.length ≤ 1099511627776) : g31 [.list (l.map eN), .agg [.str x.q, .str x.s, .str x.d]] = some (.bool (has l x)) := encSpec_eq (x := (l, x)) h fun y hy => by
  obtain ⟨y1, y2⟩ := y
  simp only [List.cons.injEq, D.list.injEq, and_true] at hy
  rw [map_inj eN_inj hy.1, eN_inj _ _ hy.2]
noncomputable def Γ31 : FuncId → Option CSpec := fun f => if f = 49 then some (.pure true g49) else none
theorem Γ31_ok : ∀ f s, Γ31 f = some s → SpecOK Try.prog f s := by
  intro f s h
  unfold Γ31 at h
  split at h
  · rename_i hf; cases h; subst hf; exact f49_ok
  · cases h
theorem f31_ok : PureOK Try.prog 31 true g31 := by
  have hΓ := Γ31_ok
  refine pure_enc (n := 9) (rs := [.tmp 4]) Try.func31 (by kernel_rfl) rfl (by kernel_rfl) (by kernel_rfl) ?_
  rintro ⟨l, x⟩ hl
  dsimp only at hl ⊢
  refine ⟨fun _ => .bool _, fun k hz0 => ?_⟩
  have e49 := g49_eq (x := x) hl
  rw [start_frame (by simp)]; simp only [enumV, go_sem, emptyH]
  repeat (first
    | refine awp_seq ?_ | refine awp_block ?_ | refine awp_ret ?_ | refine awp_skip ?_ | refine awp_exit ?_ | refine awp_label ?_
    | refine then_normal ?_ | refine then_ret ?_ | refine then_exit ?_ | refine block_normal ?_ | refine block_ret ?_ | refine block_exit ?_ | refine block_out rfl ?_
    | (apply awp_reg hΓ; (focus (simp (disch := omega) only [go_sem, ↓reduceIte, decide_eq_true, decide_eq_false, if_pos, if_neg, wrap_in, maxLen, eN, Γ31, e49]; with_reducible rfl)))
    | (apply awp_regf mixedOK hΓ (by kernel_rfl); (focus (simp (disch := omega) only [go_sem, ↓reduceIte, decide_eq_true, decide_eq_false, if_pos, if_neg, wrap_in, maxLen, eN, Γ31, e49]; with_reducible rfl)); (focus (simp only [go_sem]; with_reducible rfl)))
    | (apply awp_regt mixedOK hΓ rfl; (focus kernel_rfl); (focus (simp (disch := omega) only [go_sem, ↓reduceIte, decide_eq_true, decide_eq_false, if_pos, if_neg, wrap_in, maxLen, eN, Γ31, e49]; with_reducible rfl)); (focus (simp only [go_sem]; with_reducible rfl)); (focus (simp (disch := omega) only [go_sem, ↓reduceIte, decide_eq_true, decide_eq_false, if_pos, if_neg, wrap_in, maxLen, eN, Γ31, e49]; with_reducible rfl)))
    | (apply awp_cond_t; (focus (simp (disch := omega) only [go_sem, ↓reduceIte, decide_eq_true, decide_eq_false, if_pos, if_neg, wrap_in, maxLen, eN, Γ31, e49]; done))) | (apply awp_cond_f; (focus (simp (disch := omega) only [go_sem, ↓reduceIte, decide_eq_true, decide_eq_false, if_pos, if_neg, wrap_in, maxLen, eN, Γ31, e49]; done)))
    | (apply ret_e; (focus (simp (disch := omega) only [go_sem, ↓reduceIte, decide_eq_true, decide_eq_false, if_pos, if_neg, wrap_in, maxLen, eN, Γ31, e49]; with_reducible rfl)); (focus (simp (disch := omega) only [go_sem, ↓reduceIte, decide_eq_true, decide_eq_false, if_pos, if_neg, wrap_in, maxLen, eN, Γ31, e49]; with_reducible rfl))) | (apply end_e; (focus (simp (disch := omega) only [go_sem, ↓reduceIte, decide_eq_true, decide_eq_false, if_pos, if_neg, wrap_in, maxLen, eN, Γ31, e49]; with_reducible rfl)); (focus (simp (disch := omega) only [go_sem, ↓reduceIte, decide_eq_true, decide_eq_false, if_pos, if_neg, wrap_in, maxLen, eN, Γ31, e49]; with_reducible rfl)))
    | rfl)
  rw [has, ← idx_nonneg]
theorem f48_ok : PureOK Try.prog 48 true g31 := by
  have hΓ := Γ0_ok
  refine pure_enc (n := 18) (rs := [.tmp 4]) Try.func48 (by kernel_rfl) rfl (by kernel_rfl) (by kernel_rfl) ?_
  rintro ⟨l, x⟩ hl
  dsimp only at hl ⊢
  refine ⟨fun _ => .bool _, fun k hz0 => ?_⟩
  rw [start_frame (by simp)]; simp only [enumV, go_sem, emptyH]
  repeat (first
    | refine awp_seq ?_ | refine awp_block ?_ | refine awp_ret ?_ | refine awp_skip ?_ | refine awp_exit ?_ | refine awp_label ?_
    | refine then_normal ?_ | refine then_ret ?_ | refine then_exit ?_ | refine block_normal ?_ | refine block_ret ?_ | refine block_exit ?_ | refine block_out rfl ?_
    | (apply awp_reg hΓ; (focus (simp (disch := omega) only [go_sem, ↓reduceIte, decide_eq_true, decide_eq_false, if_pos, if_neg, wrap_in, maxLen, eN]; with_reducible rfl)))
    | (apply awp_regf mixedOK hΓ (by kernel_rfl); (focus (simp (disch := omega) only [go_sem, ↓reduceIte, decide_eq_true, decide_eq_false, if_pos, if_neg, wrap_in, maxLen, eN]; with_reducible rfl)); (focus (simp only [go_sem]; with_reducible rfl)))
    | (apply awp_regt mixedOK hΓ rfl; (focus kernel_rfl); (focus (simp (disch := omega) only [go_sem, ↓reduceIte, decide_eq_true, decide_eq_false, if_pos, if_neg, wrap_in, maxLen, eN]; with_reducible rfl)); (focus (simp only [go_sem]; with_reducible rfl)); (focus (simp (disch := omega) only [go_sem, ↓reduceIte, decide_eq_true, decide_eq_false, if_pos, if_neg, wrap_in, maxLen, eN]; with_reducible rfl)))
    | (apply awp_cond_t; (focus (simp (disch := omega) only [go_sem, ↓reduceIte, decide_eq_true, decide_eq_false, if_pos, if_neg, wrap_in, maxLen, eN]; done))) | (apply awp_cond_f; (focus (simp (disch := omega) only [go_sem, ↓reduceIte, decide_eq_true, decide_eq_false, if_pos, if_neg, wrap_in, maxLen, eN]; done)))
    | (apply ret_e; (focus (simp (disch := omega) only [go_sem, ↓reduceIte, decide_eq_true, decide_eq_false, if_pos, if_neg, wrap_in, maxLen, eN]; with_reducible rfl)); (focus (simp (disch := omega) only [go_sem, ↓reduceIte, decide_eq_true, decide_eq_false, if_pos, if_neg, wrap_in, maxLen, eN]; with_reducible rfl))) | (apply end_e; (focus (simp (disch := omega) only [go_sem, ↓reduceIte, decide_eq_true, decide_eq_false, if_pos, if_neg, wrap_in, maxLen, eN]; with_reducible rfl)); (focus (simp (disch := omega) only [go_sem, ↓reduceIte, decide_eq_true, decide_eq_false, if_pos, if_neg, wrap_in, maxLen, eN]; with_reducible rfl)))
    | rfl)
  refine awp_loop_at (X := Nat) (fun i => (frame 18 [(0, .data (.list (l.map eN))), (3, .ptr 0 0), (5, .data (i64 i))])) (fun _ => [(0, .box [.data (.str x.q), .data (.str x.s), .data (.str x.d)])]) 1
    (fun i => i ≤ l.length ∧ (l.take i).any (fun y => decide (y = x)) = false) (fun i => l.length - i) 0 ⟨Nat.zero_le _, rfl⟩ (Weak.ofF (by omega) (by simp [ConvF, lookV, Conv, ints]) (by (simp (disch := omega) only [TabSub, look, if_pos, if_neg, Obj.refsOK, refsOKs, AV.refsOK, decide_eq_true_eq, Bool.and_true, Bool.and_self] ) <;> ((repeat' apply And.intro) <;> first | exact True.intro | omega | (simp; done) | rfl)) (by simp (disch := omega) only [refsF, AV.refsOK, Bool.and_true, Bool.and_self, decide_eq_true_eq, Bool.true_and, Bool.and_eq_true]; try omega)) ?_
  rintro i ⟨hi, hpre⟩
  by_cases hi2 : i < l.length
  · have he := eq39 l[i] x
    by_cases hx : l[i] = x
    · have hid : has l x = true := List.any_eq_true.2 ⟨_, List.getElem_mem hi2, by simpa using hx⟩
      rw [decide_eq_true hx] at he
      generalize hy : l[i] = y at *
      repeat (first
        | refine awp_seq ?_ | refine awp_block ?_ | refine awp_ret ?_ | refine awp_skip ?_ | refine awp_exit ?_ | refine awp_label ?_
        | refine then_normal ?_ | refine then_ret ?_ | refine then_exit ?_ | refine block_normal ?_ | refine block_ret ?_ | refine block_exit ?_ | refine block_out rfl ?_
        | (apply awp_reg hΓ; (focus (simp (disch := omega) only [go_sem, ↓reduceIte, decide_eq_true, decide_eq_false, if_pos, if_neg, wrap_in, maxLen, eN, hy, ↓he]; with_reducible rfl)))
        | (apply awp_regf mixedOK hΓ (by kernel_rfl); (focus (simp (disch := omega) only [go_sem, ↓reduceIte, decide_eq_true, decide_eq_false, if_pos, if_neg, wrap_in, maxLen, eN, hy, ↓he]; with_reducible rfl)); (focus (simp only [go_sem]; with_reducible rfl)))
        | (apply awp_regt mixedOK hΓ rfl; (focus kernel_rfl); (focus (simp (disch := omega) only [go_sem, ↓reduceIte, decide_eq_true, decide_eq_false, if_pos, if_neg, wrap_in, maxLen, eN, hy, ↓he]; with_reducible rfl)); (focus (simp only [go_sem]; with_reducible rfl)); (focus (simp (disch := omega) only [go_sem, ↓reduceIte, decide_eq_true, decide_eq_false, if_pos, if_neg, wrap_in, maxLen, eN, hy, ↓he]; with_reducible rfl)))
        | (apply awp_cond_t; (focus (simp (disch := omega) only [go_sem, ↓reduceIte, decide_eq_true, decide_eq_false, if_pos, if_neg, wrap_in, maxLen, eN, hy, ↓he]; done))) | (apply awp_cond_f; (focus (simp (disch := omega) only [go_sem, ↓reduceIte, decide_eq_true, decide_eq_false, if_pos, if_neg, wrap_in, maxLen, eN, hy, ↓he]; done)))
        | (apply ret_e; (focus (simp (disch := omega) only [go_sem, ↓reduceIte, decide_eq_true, decide_eq_false, if_pos, if_neg, wrap_in, maxLen, eN, hy, ↓he]; with_reducible rfl)); (focus (simp (disch := omega) only [go_sem, ↓reduceIte, decide_eq_true, decide_eq_false, if_pos, if_neg, wrap_in, maxLen, eN, hy, ↓he]; with_reducible rfl))) | (apply end_e; (focus (simp (disch := omega) only [go_sem, ↓reduceIte, decide_eq_true, decide_eq_false, if_pos, if_neg, wrap_in, maxLen, eN, hy, ↓he]; with_reducible rfl)); (focus (simp (disch := omega) only [go_sem, ↓reduceIte, decide_eq_true, decide_eq_false, if_pos, if_neg, wrap_in, maxLen, eN, hy, ↓he]; with_reducible rfl)))
        | rfl)
      rw [hid]
    · have hn := any_next (p := fun y => decide (y = x)) hi2 hpre (by simpa using hx)
      rw [decide_eq_false hx] at he
      generalize hy : l[i] = y at *
      repeat (first
        | refine awp_seq ?_ | refine awp_block ?_ | refine awp_ret ?_ | refine awp_skip ?_ | refine awp_exit ?_ | refine awp_label ?_
        | refine then_normal ?_ | refine then_ret ?_ | refine then_exit ?_ | refine block_normal ?_ | refine block_ret ?_ | refine block_exit ?_ | refine block_out rfl ?_
        | (apply awp_reg hΓ; (focus (simp (disch := omega) only [go_sem, ↓reduceIte, decide_eq_true, decide_eq_false, if_pos, if_neg, wrap_in, maxLen, eN, hy, ↓he]; with_reducible rfl)))
        | (apply awp_regf mixedOK hΓ (by kernel_rfl); (focus (simp (disch := omega) only [go_sem, ↓reduceIte, decide_eq_true, decide_eq_false, if_pos, if_neg, wrap_in, maxLen, eN, hy, ↓he]; with_reducible rfl)); (focus (simp only [go_sem]; with_reducible rfl)))
        | (apply awp_regt mixedOK hΓ rfl; (focus kernel_rfl); (focus (simp (disch := omega) only [go_sem, ↓reduceIte, decide_eq_true, decide_eq_false, if_pos, if_neg, wrap_in, maxLen, eN, hy, ↓he]; with_reducible rfl)); (focus (simp only [go_sem]; with_reducible rfl)); (focus (simp (disch := omega) only [go_sem, ↓reduceIte, decide_eq_true, decide_eq_false, if_pos, if_neg, wrap_in, maxLen, eN, hy, ↓he]; with_reducible rfl)))
        | (apply awp_cond_t; (focus (simp (disch := omega) only [go_sem, ↓reduceIte, decide_eq_true, decide_eq_false, if_pos, if_neg, wrap_in, maxLen, eN, hy, ↓he]; done))) | (apply awp_cond_f; (focus (simp (disch := omega) only [go_sem, ↓reduceIte, decide_eq_true, decide_eq_false, if_pos, if_neg, wrap_in, maxLen, eN, hy, ↓he]; done)))
        | (apply ret_e; (focus (simp (disch := omega) only [go_sem, ↓reduceIte, decide_eq_true, decide_eq_false, if_pos, if_neg, wrap_in, maxLen, eN, hy, ↓he]; with_reducible rfl)); (focus (simp (disch := omega) only [go_sem, ↓reduceIte, decide_eq_true, decide_eq_false, if_pos, if_neg, wrap_in, maxLen, eN, hy, ↓he]; with_reducible rfl))) | (apply end_e; (focus (simp (disch := omega) only [go_sem, ↓reduceIte, decide_eq_true, decide_eq_false, if_pos, if_neg, wrap_in, maxLen, eN, hy, ↓he]; with_reducible rfl)); (focus (simp (disch := omega) only [go_sem, ↓reduceIte, decide_eq_true, decide_eq_false, if_pos, if_neg, wrap_in, maxLen, eN, hy, ↓he]; with_reducible rfl)))
        | rfl)
      exact ⟨i + 1, ⟨by omega, hn⟩, by omega, Weak.ofF (by omega) (by simp [ConvF, lookV, Conv, ints]) (by (simp (disch := omega) only [TabSub, look, if_pos, if_neg, Obj.refsOK, refsOKs, AV.refsOK, decide_eq_true_eq, Bool.and_true, Bool.and_self] ) <;> ((repeat' apply And.intro) <;> first | exact True.intro | omega | (simp; done) | rfl)) (by simp (disch := omega) only [refsF, AV.refsOK, Bool.and_true, Bool.and_self, decide_eq_true_eq, Bool.true_and, Bool.and_eq_true]; try omega)⟩
  · have hi' : i = l.length := by omega
    subst hi'
    rw [List.take_length] at hpre
    have hid : has l x = false := hpre
    repeat (first
      | refine awp_seq ?_ | refine awp_block ?_ | refine awp_ret ?_ | refine awp_skip ?_ | refine awp_exit ?_ | refine awp_label ?_
      | refine then_normal ?_ | refine then_ret ?_ | refine then_exit ?_ | refine block_normal ?_ | refine block_ret ?_ | refine block_exit ?_ | refine block_out rfl ?_
      | (apply awp_reg hΓ; (focus (simp (disch := omega) only [go_sem, ↓reduceIte, decide_eq_true, decide_eq_false, if_pos, if_neg, wrap_in, maxLen]; with_reducible rfl)))
      | (apply awp_regf mixedOK hΓ (by kernel_rfl); (focus (simp (disch := omega) only [go_sem, ↓reduceIte, decide_eq_true, decide_eq_false, if_pos, if_neg, wrap_in, maxLen]; with_reducible rfl)); (focus (simp only [go_sem]; with_reducible rfl)))
      | (apply awp_regt mixedOK hΓ rfl; (focus kernel_rfl); (focus (simp (disch := omega) only [go_sem, ↓reduceIte, decide_eq_true, decide_eq_false, if_pos, if_neg, wrap_in, maxLen]; with_reducible rfl)); (focus (simp only [go_sem]; with_reducible rfl)); (focus (simp (disch := omega) only [go_sem, ↓reduceIte, decide_eq_true, decide_eq_false, if_pos, if_neg, wrap_in, maxLen]; with_reducible rfl)))
      | (apply awp_cond_t; (focus (simp (disch := omega) only [go_sem, ↓reduceIte, decide_eq_true, decide_eq_false, if_pos, if_neg, wrap_in, maxLen]; done))) | (apply awp_cond_f; (focus (simp (disch := omega) only [go_sem, ↓reduceIte, decide_eq_true, decide_eq_false, if_pos, if_neg, wrap_in, maxLen]; done)))
      | (apply ret_e; (focus (simp (disch := omega) only [go_sem, ↓reduceIte, decide_eq_true, decide_eq_false, if_pos, if_neg, wrap_in, maxLen]; with_reducible rfl)); (focus (simp (disch := omega) only [go_sem, ↓reduceIte, decide_eq_true, decide_eq_false, if_pos, if_neg, wrap_in, maxLen]; with_reducible rfl))) | (apply end_e; (focus (simp (disch := omega) only [go_sem, ↓reduceIte, decide_eq_true, decide_eq_false, if_pos, if_neg, wrap_in, maxLen]; with_reducible rfl)); (focus (simp (disch := omega) only [go_sem, ↓reduceIte, decide_eq_true, decide_eq_false, if_pos, if_neg, wrap_in, maxLen]; with_reducible rfl)))
      | rfl)
    rw [hid]
end Go.Ab
