/-
  One text of the proof (own work): contracts of functions of the program, by the abstract machine.
-/
import Derived.Test.YtlfmbcjjojedgaaGreatDoorX19
import Derived.Test.YtlfmbcjjojedgaaGreatDoorX26
import Derived.Test.YtlfmbcjjojedgaaGreatDoorX23
import Derived.Test.YtlfmbcjjojedgaaGreatDoorX28
import Derived.Test.YtlfmbcjjojedgaaGreatDoorX22
import Derived.Test.YtlfmbcjjojedgaaGreatDoorX35
set_option linter.unusedVariables false
set_option linter.unusedSimpArgs false
namespace Go.Ab
open Go Go.RowKit Go.Proofs Go.Shelf
set_option maxRecDepth 10000
set_option maxHeartbeats 8000000
theorem eHd_e (a b : Hd) : (eHd a = eHd b) = (a = b) := propext ⟨eHd_inj a b, fun h => by rw [h]⟩
noncomputable def g_writeP : List D → Option D := encSpec (fun x : Int × Bs => [i64 x.1, .str x.2]) (fun x : Int × Bs => x.2.length ≤ 1099511627776) (fun x : Int × Bs => .tup [.str (writeB x.1 x.2).1, .int .i64 (writeB x.1 x.2).2])
theorem g_writeP_eq {m : Int} {s : Bs} (hd : s.length ≤ 1099511627776) : g_writeP [.int .i64 m, .str s] = some (.tup [.str (writeB m s).1, .int .i64 (writeB m s).2]) := encSpec_eq (x := (m, s)) hd fun y hy => by
    obtain ⟨y0, y1⟩ := y; simp only [List.cons.injEq, and_true, true_and, D.str.injEq, D.int.injEq, D.list.injEq, D.bool.injEq, D.agg.injEq, D.clo.injEq, Int.natCast_inj, inj_ie, D.ref.injEq, eHd_e] at hy
    (try obtain ⟨rfl, rfl⟩ := hy)
    (try subst_vars)
    rfl
theorem f_writeP_ok : PureOK Tryz.prog 24 true g_writeP := by
  have hΓ := Γp f_wordsP_ok (Γp f_isText_ok (Γn))
  refine pure_enc (n := 25) (rs := [.tmp 4, .tmp 5]) Tryz.func24 (by kernel_rfl) rfl (by kernel_rfl) (by kernel_rfl) ?_
  rintro ⟨m, s⟩ hd
  (try dsimp only at hd ⊢)
  refine ⟨fun _ => by (refine .tup _ (fun d hd => ?_); simp only [List.mem_cons, List.not_mem_nil, or_false] at hd; repeat (first | exact .int _ _ | exact .bool _ | exact .str _ | (rcases hd with rfl | hd) | subst hd | (refine .agg _ (fun d hd => ?_); simp only [List.mem_cons, List.not_mem_nil, or_false] at hd))), fun k hz0 => ?_⟩
  have ew := g_wordsP_eq
  have ei := g_isText_eq hd
  have ht := @isT_trim s
  unfold writeB
  rw [start_frame (by simp)]; simp only [enumV, go_sem, emptyH]
  by_cases h0 : m = 0
  · subst h0
    generalize isT s = c at *
    cases c
    · repeat (first
      | (apply axJ; (focus ((with_reducible constructor) <;> rfl)))
      | (apply awT mixedOK hΓ (by kernel_rfl); (simp (disch := omega) only [go_sem, ↓reduceIte, dk, ↓lk, Int.reduceBEq, Int.reduceBNe, Bool.true_bne, Bool.false_bne, Bool.not_true, Bool.not_false, Int.reduceToNat, List.getElem?_cons_zero, List.getElem?_cons_succ, ew, ei] <;> with_reducible rfl))
      | ((first | apply awR hΓ | apply awG | apply awH mixedOK hΓ rfl (by kernel_rfl) | apply ovE rfl); (simp (disch := omega) only [go_sem, ↓reduceIte, dk, ↓lk, Int.reduceBEq, Int.reduceBNe, Bool.true_bne, Bool.false_bne, Bool.not_true, Bool.not_false, Int.reduceToNat, List.getElem?_cons_zero, List.getElem?_cons_succ, ew, ei] <;> with_reducible rfl); exact trivial)
      | rfl)
      try rfl
    · have hl := (ht rfl).2.1
      have he : lineB 0 s = [35, 32] ++ kLic ++ [32] ++ s := by simp [lineB, wordH]
      have hk : kLic.length = 8 := rfl
      rw [show ((0 : Int) == 0 || (0 : Int) == 1) = true from rfl, if_pos rfl, if_pos rfl, he]
      generalize kLic = k1 at *
      generalize kCop = k2 at *
      repeat (first
        | (apply axJ; (focus ((with_reducible constructor) <;> rfl)))
        | (apply awT mixedOK hΓ (by kernel_rfl); (simp (disch := (first | omega | (simp only [maxLen, List.length_append, List.length_cons, List.length_nil]; omega))) only [go_sem, ↓reduceIte, ↓if_pos, ↓if_neg, decide_eq_true, decide_eq_false, if_pos, if_neg, wrap_in, ↓lk, Int.reduceBEq, Int.reduceBNe, Bool.true_bne, Bool.false_bne, Bool.not_true, Bool.not_false, Int.reduceToNat, List.getElem?_cons_zero, List.getElem?_cons_succ, ew, ei] <;> with_reducible rfl))
        | ((first | apply awR hΓ | apply awG | apply awH mixedOK hΓ rfl (by kernel_rfl) | apply ovE rfl); (simp (disch := (first | omega | (simp only [maxLen, List.length_append, List.length_cons, List.length_nil]; omega))) only [go_sem, ↓reduceIte, ↓if_pos, ↓if_neg, decide_eq_true, decide_eq_false, if_pos, if_neg, wrap_in, ↓lk, Int.reduceBEq, Int.reduceBNe, Bool.true_bne, Bool.false_bne, Bool.not_true, Bool.not_false, Int.reduceToNat, List.getElem?_cons_zero, List.getElem?_cons_succ, ew, ei] <;> with_reducible rfl); exact trivial)
        | rfl)
      try rfl
  by_cases h1 : m = 1
  · subst h1
    generalize isT s = c at *
    cases c
    · repeat (first
      | (apply axJ; (focus ((with_reducible constructor) <;> rfl)))
      | (apply awT mixedOK hΓ (by kernel_rfl); (simp (disch := omega) only [go_sem, ↓reduceIte, dk, ↓lk, Int.reduceBEq, Int.reduceBNe, Bool.true_bne, Bool.false_bne, Bool.not_true, Bool.not_false, Int.reduceToNat, List.getElem?_cons_zero, List.getElem?_cons_succ, ew, ei] <;> with_reducible rfl))
      | ((first | apply awR hΓ | apply awG | apply awH mixedOK hΓ rfl (by kernel_rfl) | apply ovE rfl); (simp (disch := omega) only [go_sem, ↓reduceIte, dk, ↓lk, Int.reduceBEq, Int.reduceBNe, Bool.true_bne, Bool.false_bne, Bool.not_true, Bool.not_false, Int.reduceToNat, List.getElem?_cons_zero, List.getElem?_cons_succ, ew, ei] <;> with_reducible rfl); exact trivial)
      | rfl)
      try rfl
    · have hl := (ht rfl).2.1
      have he : lineB 1 s = [35, 32] ++ kCop ++ [32] ++ s := by simp [lineB, wordH]
      have hk : kCop.length = 10 := rfl
      rw [show ((1 : Int) == 0 || (1 : Int) == 1) = true from rfl, if_pos rfl, if_pos rfl, he]
      generalize kLic = k1 at *
      generalize kCop = k2 at *
      repeat (first
        | (apply axJ; (focus ((with_reducible constructor) <;> rfl)))
        | (apply awT mixedOK hΓ (by kernel_rfl); (simp (disch := (first | omega | (simp only [maxLen, List.length_append, List.length_cons, List.length_nil]; omega))) only [go_sem, ↓reduceIte, ↓if_pos, ↓if_neg, decide_eq_true, decide_eq_false, if_pos, if_neg, wrap_in, ↓lk, Int.reduceBEq, Int.reduceBNe, Bool.true_bne, Bool.false_bne, Bool.not_true, Bool.not_false, Int.reduceToNat, List.getElem?_cons_zero, List.getElem?_cons_succ, ew, ei] <;> with_reducible rfl))
        | ((first | apply awR hΓ | apply awG | apply awH mixedOK hΓ rfl (by kernel_rfl) | apply ovE rfl); (simp (disch := (first | omega | (simp only [maxLen, List.length_append, List.length_cons, List.length_nil]; omega))) only [go_sem, ↓reduceIte, ↓if_pos, ↓if_neg, decide_eq_true, decide_eq_false, if_pos, if_neg, wrap_in, ↓lk, Int.reduceBEq, Int.reduceBNe, Bool.true_bne, Bool.false_bne, Bool.not_true, Bool.not_false, Int.reduceToNat, List.getElem?_cons_zero, List.getElem?_cons_succ, ew, ei] <;> with_reducible rfl); exact trivial)
        | rfl)
      try rfl
  have hb : (m == 0 || m == 1) = false := by simp [h0, h1]
  rw [hb]
  by_cases h2 : m < 0
  · have hd1 : decide (m < 0) = true := decide_eq_true h2
    repeat (first
      | (apply axJ; (focus ((with_reducible constructor) <;> rfl)))
      | (apply awT mixedOK hΓ (by kernel_rfl); (simp (disch := omega) only [go_sem, ↓reduceIte, dk, ↓lk, Int.reduceBEq, Int.reduceBNe, Bool.true_bne, Bool.false_bne, Bool.not_true, Bool.not_false, hd1] <;> with_reducible rfl))
      | ((first | apply awR hΓ | apply awG | apply awH mixedOK hΓ rfl (by kernel_rfl) | apply ovE rfl); (simp (disch := omega) only [go_sem, ↓reduceIte, dk, ↓lk, Int.reduceBEq, Int.reduceBNe, Bool.true_bne, Bool.false_bne, Bool.not_true, Bool.not_false, hd1] <;> with_reducible rfl); exact trivial)
      | rfl)
    try rfl
  · have hd1 : decide (m < 0) = false := decide_eq_false h2
    have hd2 : decide (m ≥ 2) = true := decide_eq_true (by omega)
    repeat (first
      | (apply axJ; (focus ((with_reducible constructor) <;> rfl)))
      | (apply awT mixedOK hΓ (by kernel_rfl); (simp (disch := omega) only [go_sem, ↓reduceIte, dk, ↓lk, Int.reduceBEq, Int.reduceBNe, Bool.true_bne, Bool.false_bne, Bool.not_true, Bool.not_false, hd1, hd2, ew] <;> with_reducible rfl))
      | ((first | apply awR hΓ | apply awG | apply awH mixedOK hΓ rfl (by kernel_rfl) | apply ovE rfl); (simp (disch := omega) only [go_sem, ↓reduceIte, dk, ↓lk, Int.reduceBEq, Int.reduceBNe, Bool.true_bne, Bool.false_bne, Bool.not_true, Bool.not_false, hd1, hd2, ew] <;> with_reducible rfl); exact trivial)
      | rfl)
    try rfl
noncomputable def g_stripC : List D → Option D := encSpec (fun x : Hd => [eHd x]) (fun x : Hd => True) (fun x : Hd => .bool true)
theorem g_stripC_eq {h : Hd} (hd : True) : g_stripC [eHd h] = some (.bool true) := encSpec_eq (x := h) hd fun y hy => by
    rfl
theorem f_stripC_ok : PureOK Tryz.prog 50 true g_stripC := by
  have hΓ := Γ0_ok
  refine pure_enc (n := 3) (rs := [.tmp 2]) Tryz.func50 (by kernel_rfl) rfl (by kernel_rfl) (by kernel_rfl) ?_
  rintro h hd
  (try dsimp only at hd ⊢)
  refine ⟨fun _ => by (repeat (first | exact .int _ _ | exact .bool _ | exact .str _ | (refine .tup _ (fun d hd => ?_); simp only [List.mem_cons, List.not_mem_nil, or_false] at hd; rcases hd with rfl | hd))), fun k hz0 => ?_⟩
  rw [eHd_eq]
  rw [start_frame (by simp)]; simp only [enumV, go_sem, emptyH]
  repeat (first
    | (apply axJ; (focus ((with_reducible constructor) <;> rfl)))
    | (apply awT mixedOK hΓ (by kernel_rfl); (simp (disch := omega) only [go_sem, ↓reduceIte, dk, ↓lk] <;> with_reducible rfl))
    | ((first | apply awR hΓ | apply awG | apply awH mixedOK hΓ rfl (by kernel_rfl) | apply ovE rfl); (simp (disch := omega) only [go_sem, ↓reduceIte, dk, ↓lk] <;> with_reducible rfl); exact trivial)
    | rfl)
  try rfl
noncomputable def g_putC : List D → Option D := encSpec (fun x : Hd × Int => [eHd x.1, .ref [i64 x.2]]) (fun x : Hd × Int => True) (fun x : Hd × Int => .bool (isK x.2 x.1))
theorem g_putC_eq {h : Hd} {m : Int} (hd : True) : g_putC [eHd h, .ref [.int .i64 m]] = some (.bool (isK m h)) := encSpec_eq (x := (h, m)) hd fun y hy => by
    obtain ⟨y0, y1⟩ := y; simp only [List.cons.injEq, and_true, true_and, D.str.injEq, D.int.injEq, D.list.injEq, D.bool.injEq, D.agg.injEq, D.clo.injEq, Int.natCast_inj, inj_ie, D.ref.injEq, eHd_e] at hy
    (try obtain ⟨rfl, rfl⟩ := hy)
    (try subst_vars)
    rfl
theorem f_putC_ok : PureOK Tryz.prog 64 true g_putC := by
  have hΓ := Γ0_ok
  refine pure_enc (n := 8) (rs := [.tmp 3]) Tryz.func64 (by kernel_rfl) rfl (by kernel_rfl) (by kernel_rfl) ?_
  rintro ⟨h, m⟩ hd
  (try dsimp only at hd ⊢)
  refine ⟨fun _ => by (repeat (first | exact .int _ _ | exact .bool _ | exact .str _ | (refine .tup _ (fun d hd => ?_); simp only [List.mem_cons, List.not_mem_nil, or_false] at hd; rcases hd with rfl | hd))), fun k hz0 => ?_⟩
  unfold isK
  rw [eHd_eq]
  rw [start_frame (by simp)]; simp only [enumV, go_sem, emptyH]
  repeat (first
    | (apply axJ; (focus ((with_reducible constructor) <;> rfl)))
    | (apply awT mixedOK hΓ (by kernel_rfl); (simp (disch := omega) only [go_sem, ↓reduceIte, dk, ↓lk] <;> with_reducible rfl))
    | ((first | apply awR hΓ | apply awG | apply awH mixedOK hΓ rfl (by kernel_rfl) | apply ovE rfl); (simp (disch := omega) only [go_sem, ↓reduceIte, dk, ↓lk] <;> with_reducible rfl); exact trivial)
    | rfl)
  try rfl
theorem with_without {d : Hd → Bool} (hd : ∀ n h, d (at0 n h) = d h) (s : Bs) : withP d (enumL 0 (splitB 10 s)) = withoutB d s := withP_enum hd _ 0
theorem flat_str (l : List Bs) : flat (l.map D.str) = l.map D.str := by
  induction l with
  | nil => rfl
  | cons x l ih =>
    rw [List.map_cons, flat_cons, ih]
    rfl
theorem str_rows (l : List Bs) : elemsOK 1 (l.map D.str) = true ∧ (flat (l.map D.str)).all D.scalar = true := by
  refine ⟨elemsOK_map (f := D.str) (fun _ => ⟨rfl, rfl⟩) l, ?_⟩
  rw [flat_str, List.all_map]
  simp [D.scalar]
noncomputable def g_without (f : FuncId) (caps : List D) (d : Hd → Bool) : List D → Option (TypeId × Nat × List D) := encSpec (fun s : Bs => [.str s, .clo f caps]) (fun s => s.length ≤ 1000000000) (fun s => (9, 1, (withoutB d s).map .str))
theorem f_without_ok {f : FuncId} {fn : Func} {cd : Code} {g : List D → Option D} {caps : List D} {d : Hd → Bool} (hd : ∀ n h, d (at0 n h) = d h) (hf : PureOK Tryz.prog f true g) (hg : ∀ h, g (eHd h :: caps) = some (.bool (d h)))
    (hfn : Tryz.prog.funcs[f]? = some fn) (hnm : (fn.name == "runtime.NumGoroutine") = false) (hbd : fn.body = some cd) : OwnOK Tryz.prog 49 (g_without f caps d) := own_calls Tryz.func49 (by kernel_rfl) (by kernel_rfl) (by decide) (fun x => str_rows _) fun s hs w B vs hB hz hvs => by
  have hz1 : vs.size = 2 := hz
  have h0 := hvs 0 (by simp) (vs[0]'(by omega)) (Array.getElem?_eq_getElem _)
  have h1 := hvs 1 (by simp) (vs[1]'(by omega)) (Array.getElem?_eq_getElem _)
  have e : vs = #[vs[0]'(by omega), vs[1]'(by omega)] := Array.ext hz1 fun i i1 i2 => by
    match i, i2 with
    | 0, _ => rfl
    | 1, _ => rfl
  have e0 : vs[0]'(by omega) = .string ⟨s.toArray⟩ := DR.str_eq h0
  rw [e, e0]
  refine (without_calls hs hB hf hg hfn hnm hbd h1).mono ?_
  rintro e w' ⟨v, rfl, h1, h2⟩
  rw [with_without hd] at h1
  exact ⟨v, w.heap.size + 3, rfl, by omega, by rw [flat_str, List.length_map, List.map_map]; exact h1, h2⟩
theorem f_without1_ok : OwnOK Tryz.prog 49 (g_without 50 [] anyK) := f_without_ok (fun _ _ => rfl) f_stripC_ok (fun h => g_stripC_eq (h := h) trivial) Tryz.func50 (by kernel_rfl) rfl
noncomputable def g_without2 : List D → Option (TypeId × Nat × List D) := encSpec (fun x : Bs × Int => [.str x.1, .clo 64 [.ref [i64 x.2]]]) (fun x => x.1.length ≤ 1000000000) (fun x => (9, 1, (withoutB (isK x.2) x.1).map .str))
theorem f_without2_ok : OwnOK Tryz.prog 49 g_without2 := own_calls Tryz.func49 (by kernel_rfl) (by kernel_rfl) (by decide) (fun x => str_rows _) fun x hs w B vs hB hz hvs => by
  obtain ⟨s, m⟩ := x
  have hz1 : vs.size = 2 := hz
  have h0 := hvs 0 (by simp) (vs[0]'(by omega)) (Array.getElem?_eq_getElem _)
  have h1 := hvs 1 (by simp) (vs[1]'(by omega)) (Array.getElem?_eq_getElem _)
  have e : vs = #[vs[0]'(by omega), vs[1]'(by omega)] := Array.ext hz1 fun i i1 i2 => by
    match i, i2 with
    | 0, _ => rfl
    | 1, _ => rfl
  have e0 : vs[0]'(by omega) = .string ⟨s.toArray⟩ := DR.str_eq h0
  rw [e, e0]
  refine (without_calls hs hB f_putC_ok (fun h => g_putC_eq (h := h) (m := m) trivial) Tryz.func64 (by kernel_rfl) rfl h1).mono ?_
  rintro e w' ⟨v, rfl, h1, h2⟩
  rw [with_without (fun _ _ => rfl)] at h1
  exact ⟨v, w.heap.size + 3, rfl, by omega, by rw [flat_str, List.length_map, List.map_map]; exact h1, h2⟩
theorem g_without2_eq {s : Bs} {m : Int} (h : s.length ≤ 1000000000) : g_without2 [.str s, .clo 64 [.ref [.int .i64 m]]] = some (9, 1, (withoutB (isK m) s).map .str) := encSpec_eq (x := (s, m)) h fun y hy => by
  obtain ⟨y0, y1⟩ := y
  simp only [List.cons.injEq, and_true, true_and, D.str.injEq, D.clo.injEq, D.ref.injEq, D.int.injEq] at hy
  obtain ⟨rfl, rfl⟩ := hy
  rfl
theorem g_without_eq {f : FuncId} {caps : List D} {d : Hd → Bool} {s : Bs} (h : s.length ≤ 1000000000) : g_without f caps d [.str s, .clo f caps] = some (9, 1, (withoutB d s).map .str) := encSpec_eq (x := s) h fun y hy => by
  simp only [List.cons.injEq, and_true, D.str.injEq] at hy
  rw [hy]
end Go.Ab
namespace Go.Ab
open Go Go.RowKit
def locOwn (g : List D → Option (TypeId × Nat × List D)) (xs : List AV) (os : List Obj) : Option (AV × List Obj) := match mapOpt (toD ⟨enumO 0 os, os.length⟩ 4) xs with
  | some ds => match g ds with
    | some (e, sz, l) => if (flat l).all D.scalar then some (.row os.length l.length, os ++ [.row e sz l]) else none
    | none => none
  | none => none
theorem upd_enumO : ∀ (os : List Obj) (k : Nat) (x : Obj), upd (enumO k os) (k + os.length) x = enumO k (os ++ [x])
  | [], k, x => rfl
  | o :: os, k, x => by
    have ih := upd_enumO os (k + 1) x
    rw [enumO, upd, if_neg (by simp), List.cons_append, enumO]
    rw [show k + (o :: os).length = k + 1 + os.length by simp; omega, ih]
theorem loc_of_own {P : Program} {f : FuncId} {g : List D → Option (TypeId × Nat × List D)} (h : OwnOK P f g) : LocOK P f (locOwn g) := by
  intro xs os r os' hg _ c θ w vs hbase hsim hvs hvals
  unfold locOwn at hg
  split at hg
  · rename_i ds hds
    split at hg
    · rename_i e sz l hgd
      split at hg
      · rename_i hsc
        simp only [Option.some.injEq, Prod.mk.injEq] at hg
        obtain ⟨rfl, rfl⟩ := hg
        obtain ⟨hl, hds⟩ := mapOpt_some hds
        obtain ⟨hsz, hcl, hone, hcall⟩ := h ds e sz l hgd
        obtain ⟨hen, hcall⟩ := hcall w (seen c w) vs (fun b hb => hb.1) (by rw [hvs, hl]) (fun i hi u hu => toD_sound hsim 4 _ _ _ (hvals i (by omega) u hu) (hds i (by omega) hi))
        refine ⟨hen, hcall.mono ?_⟩
        rintro e' w' ⟨v, rfl, ⟨us, hrow, hel⟩, hb⟩
        refine ⟨v, rfl, ?_⟩
        have hst : St c ⟨enumO 0 os, os.length⟩ θ w [] ⟨#[], []⟩ := ⟨hsim, rfl, rfl, fun i x v hx _ => by simp at hx⟩
        have hnew : ¬ (⟨enumO 0 os, os.length⟩ : Heap).ref os.length := by
          rintro (h | h)
          · exact absurd h (Nat.lt_irrefl _)
          · rw [get_enumO] at h
            simp at h
        obtain ⟨θ', q1, q2, q3⟩ := add_row' (k := os.length) (l := l) hst hnew hsz hcl hone hrow (fun i hi u hu => (hel i hi u hu).flat (scalar_flat (List.all_eq_true.1 hsc _ (List.getElem_mem hi)))) hb.block hb.size
        have hset : (⟨enumO 0 os, os.length⟩ : Heap).set os.length (.row e sz l) = ⟨enumO 0 (os ++ [.row e sz l]), os.length⟩ := by
          unfold Heap.set
          have := upd_enumO os 0 (.row e sz l)
          rw [Nat.zero_add] at this
          simp only [this]
        rw [hset] at q1 q2 q3
        have hz : (os ++ [Obj.row e sz l]).length = os.length + 1 := by simp
        refine ⟨θ', ?_, ?_, ⟨hb.os, hb.tape, hb.output, hb.size, fun b h1 _ => hb.block b (Nat.lt_of_lt_of_le h1 hsim.size)⟩, ?_⟩
        · rw [hz]
          exact q2.sim.bump (n := os.length + 1) (Nat.le_succ _)
        · rw [hz]
          exact vr_bump (n := os.length + 1) (Nat.le_succ _) q1
        · rw [hz]
          intro o x hlt hx
          exact q3.evo (Nat.le_refl _) o x hlt hx
      · cases hg
    · cases hg
  · cases hg
end Go.Ab
namespace Go.Ab
open Go Go.RowKit Go.Proofs Go.Shelf
set_option maxRecDepth 10000
set_option maxHeartbeats 8000000
def lens (l : List Bs) : Nat := (l.map fun w => w.length + 1).sum
theorem jn_len : ∀ (l : List Bs), l ≠ [] → (joinB l).length + 1 = lens l
  | [], h => absurd rfl h
  | [w], _ => by simp [joinB, Lib.join, lens]
  | w :: v :: r, _ => by
    have ih := jn_len (v :: r) (by simp)
    unfold joinB at ih ⊢
    rw [jn_cons _ _ _ (by simp)]
    unfold lens at ih ⊢
    rw [List.map_cons, List.sum_cons, ← ih, List.length_append, List.length_append, List.length_singleton]
    omega
theorem lens_filter (q : Bs → Bool) (l : List Bs) : lens (l.filter q) ≤ lens l := by
  induction l with
  | nil => exact Nat.le_refl _
  | cons w l ih =>
    unfold lens at ih ⊢
    rw [List.filter_cons]
    split
    · rw [List.map_cons, List.sum_cons, List.map_cons, List.sum_cons]; omega
    · rw [List.map_cons, List.sum_cons]; omega
theorem lens_split (s : Bs) : lens (splitB 10 s) = s.length + 1 := by
  rw [← jn_len _ (splitB_ne 10 s)]
  unfold joinB
  rw [sp_join]
theorem jn_le (l : List Bs) : (joinB l).length ≤ lens l := by
  by_cases h : l = []
  · subst h; exact Nat.le_refl _
  · have := jn_len l h
    omega
theorem lens_without (d : Hd → Bool) (s : Bs) : lens (withoutB d s) ≤ s.length + 1 := by
  rw [← lens_split]
  exact lens_filter _ _
theorem without_len (d : Hd → Bool) (s : Bs) : (withoutB d s).length ≤ s.length + 1 := by
  have := splitB_len 10 s
  unfold withoutB
  exact Nat.le_trans (List.length_filter_le _ _) this
theorem join_len (d : Hd → Bool) (s : Bs) : (Lib.join (withoutB d s) [10]).length ≤ s.length := by
  by_cases h : withoutB d s = []
  · rw [h]; exact Nat.zero_le _
  · have h1 := jn_len _ h
    have h2 := lens_without d s
    unfold joinB at h1
    omega
theorem strip_len (s : Bs) : (stripB s).length ≤ s.length := join_len anyK s
noncomputable def g_stripP : List D → Option D := encSpec (fun x : Bs => [.str x]) (fun x : Bs => x.length ≤ 1000000000) (fun x : Bs => .str (stripB x))
theorem g_stripP_eq {s : Bs} (hd : s.length ≤ 1000000000) : g_stripP [.str s] = some (.str (stripB s)) := encSpec_eq (x := s) hd fun y hy => by
    simp only [List.cons.injEq, and_true, true_and, D.str.injEq, D.int.injEq, D.list.injEq, D.bool.injEq, D.agg.injEq, D.clo.injEq, Int.natCast_inj, inj_ie] at hy
    rw [hy]
theorem f_stripP_ok : PureOK Tryz.prog 15 true g_stripP := by
  have hΓ := Γo f_without1_ok (Γp f_join_ok (Γn))
  refine pure_enc (n := 6) (rs := [.tmp 2]) Tryz.func15 (by kernel_rfl) rfl (by kernel_rfl) (by kernel_rfl) ?_
  rintro s hd
  (try dsimp only at hd ⊢)
  refine ⟨fun _ => by (repeat (first | exact .int _ _ | exact .bool _ | exact .str _ | (refine .tup _ (fun d hd => ?_); simp only [List.mem_cons, List.not_mem_nil, or_false] at hd; rcases hd with rfl | hd))), fun k hz0 => ?_⟩
  have hw := without_len anyK s
  have hj := join_len anyK s
  have e1 := g_without_eq (f := 50) (caps := []) (d := anyK) hd
  have e2 := g_join_eq (l := withoutB anyK s) (s := [10]) ⟨by omega, by omega⟩
  unfold stripB joinB
  generalize withoutB anyK s = l at *
  rw [start_frame (by simp)]; simp only [enumV, go_sem, emptyH]
  repeat (first
    | (apply axJ; (focus ((with_reducible constructor) <;> rfl)))
    | (apply awT mixedOK hΓ (by kernel_rfl); (simp (disch := omega) only [go_sem, ↓reduceIte, dk, ↓lk, e1, e2] <;> with_reducible rfl))
    | ((first | apply awR hΓ | apply awG | apply awH mixedOK hΓ rfl (by kernel_rfl) | apply ovE rfl); (simp (disch := omega) only [go_sem, ↓reduceIte, dk, ↓lk, e1, e2] <;> with_reducible rfl); exact trivial)
    | rfl)
  try rfl
theorem write_len (m : Int) (s : Bs) : (writeB m s).1.length ≤ s.length + 13 := by
  unfold writeB
  split
  · split
    · unfold lineB wordH
      split <;> simp [kLic, kCop]
    · exact Nat.zero_le _
  · exact Nat.zero_le _
noncomputable def g_wo2 := locOwn g_without2
theorem f_wo2_ok : LocOK Tryz.prog 49 g_wo2 := loc_of_own f_without2_ok
theorem g_wo2_eq {s : Bs} {m : Int} (h : s.length ≤ 1000000000) : g_wo2 [.data (.str s), .fn 64 [.ptr 0 0]] [.box [.data (.int .i64 m)]] = some (.row 1 (withoutB (isK m) s).length, [.box [.data (.int .i64 m)], .row 9 1 ((withoutB (isK m) s).map .str)]) := by
  unfold g_wo2 locOwn
  rw [show mapOpt (toD ⟨enumO 0 [Obj.box [AV.data (D.int .i64 m)]], [Obj.box [AV.data (D.int .i64 m)]].length⟩ 4) [.data (.str s), .fn 64 [.ptr 0 0]] = some [.str s, .clo 64 [.ref [.int .i64 m]]] from rfl]
  dsimp only
  rw [g_without2_eq h]
  dsimp only
  rw [if_pos (str_rows _).2, List.length_map]
  rfl
theorem call_wo2 {s : Bs} {m : Int} (h : s.length ≤ 1000000000) (k : Nat) (n : Nat) (hk : ¬ k = 0) : callLoc k ⟨[(0, .box [.data (.int .i64 m)])], n⟩ g_wo2 [.data (.str s), .fn 64 [.ptr 0 0]] = some (.row k (withoutB (isK m) s).length, ⟨[(0, .box [.data (.int .i64 m)]), (k, .row 9 1 ((withoutB (isK m) s).map .str))], k + 1⟩) :=
  (callLoc_of (fp := [0]) rfl rfl rfl (g_wo2_eq h) (by simp)).trans (by simp [ren, rens, backTo, putAll, upd, renO, Heap.get, look, hk])
noncomputable def g_putP : List D → Option D := encSpec (fun x : Bs × Int × Bs => [.str x.1, i64 x.2.1, .str x.2.2]) (fun x : Bs × Int × Bs => x.1.length ≤ 1000000000 ∧ x.2.2.length ≤ 1000000000) (fun x : Bs × Int × Bs => .tup [.str (putB x.1 x.2.1 x.2.2).1, .int .i64 (putB x.1 x.2.1 x.2.2).2])
theorem g_putP_eq {s : Bs} {m : Int} {u : Bs} (hd : s.length ≤ 1000000000 ∧ u.length ≤ 1000000000) : g_putP [.str s, .int .i64 m, .str u] = some (.tup [.str (putB s m u).1, .int .i64 (putB s m u).2]) := encSpec_eq (x := (s, m, u)) hd fun y hy => by
    obtain ⟨y0, y1, y2⟩ := y; simp only [List.cons.injEq, and_true, true_and, D.str.injEq, D.int.injEq, D.list.injEq, D.bool.injEq, D.agg.injEq, D.clo.injEq, Int.natCast_inj, inj_ie] at hy
    (try obtain ⟨rfl, rfl, rfl⟩ := hy)
    (try subst_vars)
    rfl
theorem f_putP_ok : PureOK Tryz.prog 26 true g_putP := by
  have hΓ := Γp f_writeP_ok (Γq f_wo2_ok (Γp f_join_ok (Γn)))
  refine pure_enc (n := 28) (rs := [.tmp 6, .tmp 7]) Tryz.func26 (by kernel_rfl) rfl (by kernel_rfl) (by kernel_rfl) ?_
  rintro ⟨s, m, u⟩ hd
  (try dsimp only at hd ⊢)
  refine ⟨fun _ => by (refine .tup _ (fun d hd => ?_); simp only [List.mem_cons, List.not_mem_nil, or_false] at hd; repeat (first | exact .int _ _ | exact .bool _ | exact .str _ | (rcases hd with rfl | hd) | subst hd | (refine .agg _ (fun d hd => ?_); simp only [List.mem_cons, List.not_mem_nil, or_false] at hd))), fun k hz0 => ?_⟩
  obtain ⟨hs, hu⟩ := hd
  have e0 := g_writeP_eq (m := m) (s := u) (Nat.le_trans hu (by decide))
  have hwl := write_len m u
  have hw := without_len (isK m) s
  have hj := lens_without (isK m) s
  have e1 := fun k n hk => call_wo2 (m := m) hs k n hk
  unfold putB
  generalize writeB m u = p at *
  obtain ⟨a, e⟩ := p
  dsimp only at e0 hwl
  have hj2 := jn_le (a :: withoutB (isK m) s)
  have hj3 : lens (a :: withoutB (isK m) s) = a.length + 1 + lens (withoutB (isK m) s) := by simp [lens]
  have e2 := g_join_eq (l := a :: withoutB (isK m) s) (s := [10]) ⟨by rw [List.length_cons]; omega, by unfold joinB at hj2; omega⟩
  rw [List.map_cons] at e2
  have hjb : joinB (a :: withoutB (isK m) s) = Lib.join (a :: withoutB (isK m) s) [10] := rfl
  dsimp only
  rw [hjb]
  generalize withoutB (isK m) s = l at *
  rw [start_frame (by simp)]; simp only [enumV, go_sem, emptyH]
  by_cases he : e = 0
  · subst he
    repeat (first
      | (apply axJ; (focus ((with_reducible constructor) <;> rfl)))
      | (apply awT mixedOK hΓ (by kernel_rfl); (simp (disch := omega) only [go_sem, ↓reduceIte, dk, ↓lk, Int.reduceBEq, Int.reduceBNe, Bool.true_bne, Bool.false_bne, Bool.not_true, Bool.not_false, e0, ↓e1, e2] <;> with_reducible rfl))
      | ((first | apply awR hΓ | apply awG | apply awH mixedOK hΓ rfl (by kernel_rfl) | apply ovE rfl); (simp (disch := omega) only [go_sem, ↓reduceIte, dk, ↓lk, Int.reduceBEq, Int.reduceBNe, Bool.true_bne, Bool.false_bne, Bool.not_true, Bool.not_false, e0, ↓e1, e2] <;> with_reducible rfl); exact trivial)
      | rfl)
    try rfl
  · have h1 : (e == 0) = false := by simpa using he
    have h2 : (e != 0) = true := by simpa [bne] using he
    rw [h1]
    repeat (first
      | (apply axJ; (focus ((with_reducible constructor) <;> rfl)))
      | (apply awT mixedOK hΓ (by kernel_rfl); (simp (disch := omega) only [go_sem, ↓reduceIte, dk, ↓lk, Int.reduceBEq, Int.reduceBNe, Bool.true_bne, Bool.false_bne, Bool.not_true, Bool.not_false, e0, h2] <;> with_reducible rfl))
      | ((first | apply awR hΓ | apply awG | apply awH mixedOK hΓ rfl (by kernel_rfl) | apply ovE rfl); (simp (disch := omega) only [go_sem, ↓reduceIte, dk, ↓lk, Int.reduceBEq, Int.reduceBNe, Bool.true_bne, Bool.false_bne, Bool.not_true, Bool.not_false, e0, h2] <;> with_reducible rfl); exact trivial)
      | rfl)
    try rfl
end Go.Ab
namespace Go.Ab
open Go Go.RowKit Go.Proofs
set_option maxRecDepth 10000
set_option maxHeartbeats 16000000
theorem scanGo_len : ∀ (l : List Bs) (n : Nat), (scanGo n l).length ≤ l.length
  | [], _ => Nat.le_refl _
  | s :: l, n => by
    have := scanGo_len l (n + 1)
    rw [scanGo, List.length_cons]
    split
    · rw [List.length_cons]; omega
    · omega
end Go.Ab
