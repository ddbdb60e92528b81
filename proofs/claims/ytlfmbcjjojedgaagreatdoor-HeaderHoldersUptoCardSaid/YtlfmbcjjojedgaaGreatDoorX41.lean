/-
  One text of the proof (own work): contracts of functions of the program, by the abstract machine.
-/
import Derived.Test.YtlfmbcjjojedgaaGreatDoorX19
import Derived.Test.YtlfmbcjjojedgaaGreatDoorX39
import Derived.Test.YtlfmbcjjojedgaaGreatDoorX40
set_option linter.unusedVariables false
set_option linter.unusedSimpArgs false
namespace Go.Ab
open Go Go.RowKit Go.Proofs
set_option maxRecDepth 10000
set_option maxHeartbeats 16000000
theorem scanGo_take {l : List Bs} {i : Nat} (hi : i < l.length) : scanGo 0 (l.take (i + 1)) = scanGo 0 (l.take i) ++ (if (hdB 0 l[i]).2 then [at0 i (hdB 0 l[i]).1] else []) := by
  have h2 := hdB_line ((i : Nat) : Int) l[i]
  rw [List.take_add_one, List.getElem?_eq_getElem hi]
  show scanGo 0 (l.take i ++ [l[i]]) = _
  rw [scanGo_app, List.length_take, Nat.min_eq_left (by omega), Nat.zero_add, scanGo, h2.1]
  congr 1
  split
  · rename_i h
    rw [h2.2 h]
    rfl
  · rfl
theorem scanGo_len : ∀ (l : List Bs) (n : Nat), (scanGo n l).length ≤ l.length
  | [], _ => Nat.le_refl _
  | s :: l, n => by
    have := scanGo_len l (n + 1)
    rw [scanGo, List.length_cons]
    split
    · rw [List.length_cons]; omega
    · omega
noncomputable def g_scanR36 : List D → Option D := encSpec (fun x : Bs => [.str x]) (fun x : Bs => x.length ≤ 1000000000) (fun x : Bs => .list ((scanB x).map eHd))
theorem g_scanR36_eq {s : Bs} (hd : s.length ≤ 1000000000) : g_scanR36 [.str s] = some (.list ((scanB s).map eHd)) := encSpec_eq (x := s) hd fun y hy => by
    simp only [List.cons.injEq, and_true, true_and, D.str.injEq, D.int.injEq, D.list.injEq, D.bool.injEq, D.agg.injEq, D.clo.injEq, Int.natCast_inj, inj_ie] at hy
    rw [hy]
theorem f_scanR36_ok : PureOK Tryz.prog 14 false g_scanR36 := by
  have hΓ := Γp f_linesR36_ok (Γp f_readR36_ok (Γn))
  refine pure_enc (n := 32) (rs := [.tmp 2]) Tryz.func14 (by kernel_rfl) rfl (by kernel_rfl) (by kernel_rfl) ?_
  rintro s hd
  (try dsimp only at hd ⊢)
  refine ⟨fun h => (by cases h), fun k hz0 => ?_⟩
  have e1 := g_linesR36_eq (s := s) (Nat.le_trans hd (by decide))
  have hm := splitB_mem_len 10 s
  have hl := splitB_len 10 s
  unfold scanB
  generalize splitB 10 s = l at *
  rw [start_frame (by simp)]; simp only [enumV, go_sem, emptyH]
  repeat (first
    | (apply axJ; (focus ((with_reducible constructor) <;> rfl)))
    | (apply awT mixedOK hΓ (by kernel_rfl); (simp (disch := omega) only [go_sem, ↓reduceIte, dk, ↓lk, e1] <;> with_reducible rfl))
    | ((first | apply awR hΓ | apply awG | apply awH mixedOK hΓ rfl (by kernel_rfl) | apply ovE rfl); (simp (disch := omega) only [go_sem, ↓reduceIte, dk, ↓lk, e1] <;> with_reducible rfl); exact trivial)
    | rfl)
  refine awp_weak (Weak.nilrowF (i := 4) 26 (sz := 3) (by omega) (by omega) rfl) ?_
  refine awp_loop_at (X := Nat) (fun i => (frame 32 [(3, .data (.list (l.map .str))), (4, .row 6 (scanGo 0 (l.take i)).length), (5, .data (i64 i))])) (fun i => [(6, .row 26 3 ((scanGo 0 (l.take i)).map eHd))]) 7
    (fun i => i ≤ l.length) (fun i => l.length - i) 0 (Nat.zero_le _) (Weak.v (by (simp [ConvF, lookV, Conv, ints, upd, List.take_zero, scanGo]; done)) (by (simp (disch := omega) only [TabSub, look, if_pos, if_neg, Obj.refsOK, refsOKs, AV.refsOK, decide_eq_true_eq, Bool.and_true, Bool.and_self, upd, List.take_zero, scanGo] ) <;> ((repeat' apply And.intro) <;> first | exact True.intro | omega | (simp; done) | rfl))) ?_
  intro i hi
  (try dsimp only at hi ⊢)
  by_cases hi2 : i < l.length
  · have hst := scanGo_take hi2
    have hsl := scanGo_len (l.take i) 0
    have htl : (l.take i).length ≤ l.length := by rw [List.length_take]; omega
    have e2 := g_readR36_eq (s := l[i]) (by have := hm _ (List.getElem_mem hi2); omega)
    generalize hy : l[i] = y at *
    generalize hh : hdB 0 y = q at *
    obtain ⟨h, ok⟩ := q
    dsimp only at hst e2
    generalize scanGo 0 (l.take i) = acc at *
    cases ok
    · rw [if_neg (by decide), List.append_nil] at hst
      repeat (first
        | (apply axJ; (focus ((with_reducible constructor) <;> rfl)))
        | (apply awT mixedOK hΓ (by kernel_rfl); (simp (disch := omega) only [go_sem, ↓reduceIte, dk, ↓lk, Int.reduceBEq, Int.reduceBNe, Bool.true_bne, Bool.false_bne, Bool.not_true, Bool.not_false, hy, e2] <;> with_reducible rfl))
        | ((first | apply awR hΓ | apply awG | apply awH mixedOK hΓ rfl (by kernel_rfl) | apply ovE rfl); (simp (disch := omega) only [go_sem, ↓reduceIte, dk, ↓lk, Int.reduceBEq, Int.reduceBNe, Bool.true_bne, Bool.false_bne, Bool.not_true, Bool.not_false, hy, e2] <;> with_reducible rfl); exact trivial)
        | rfl)
      exact ⟨i + 1, by omega, by omega, by rw [hst]; exact Weak.w⟩
    · rw [if_pos rfl] at hst
      repeat (first
        | (apply axJ; (focus ((with_reducible constructor) <;> rfl)))
        | (apply awT mixedOK hΓ (by kernel_rfl); (simp (disch := omega) only [go_sem, ↓reduceIte, dk, ↓lk, Int.reduceBEq, Int.reduceBNe, Bool.true_bne, Bool.false_bne, Bool.not_true, Bool.not_false, ↓ty_build26, hy, e2, eHd_eq] <;> with_reducible rfl))
        | ((first | apply awR hΓ | apply awG | apply awH mixedOK hΓ rfl (by kernel_rfl) | apply ovE rfl); (simp (disch := omega) only [go_sem, ↓reduceIte, dk, ↓lk, Int.reduceBEq, Int.reduceBNe, Bool.true_bne, Bool.false_bne, Bool.not_true, Bool.not_false, ↓ty_build26, hy, e2, eHd_eq] <;> with_reducible rfl); exact trivial)
        | rfl)
      refine ⟨i + 1, by omega, by omega, ?_⟩
      rw [hst]
      have hm2 : (acc ++ [at0 i h]).map eHd = acc.map eHd ++ [.agg [i64 h.kind, i64 i, .str h.text]] := by rw [List.map_append]; rfl
      exact Weak.v (by (simp [ConvF, lookV, Conv, ints, hm2]; done)) (by (simp (disch := omega) only [TabSub, look, if_pos, if_neg, Obj.refsOK, refsOKs, AV.refsOK, decide_eq_true_eq, Bool.and_true, Bool.and_self, hm2] ) <;> ((repeat' apply And.intro) <;> first | exact True.intro | omega | (simp; done) | rfl))
  · have hi3 : i = l.length := by omega
    subst hi3
    rw [List.take_length]
    repeat (first
      | (apply axJ; (focus ((with_reducible constructor) <;> rfl)))
      | (apply awT mixedOK hΓ (by kernel_rfl); (simp (disch := omega) only [go_sem, ↓reduceIte, dk, ↓lk] <;> with_reducible rfl))
      | ((first | apply awR hΓ | apply awG | apply awH mixedOK hΓ rfl (by kernel_rfl) | apply ovE rfl); (simp (disch := omega) only [go_sem, ↓reduceIte, dk, ↓lk] <;> with_reducible rfl); exact trivial)
      | rfl)
    try rfl
def selK (m : Int) (h : Hd) : Bool := if decide (m ≥ 0) then h.kind == m else true
theorem selK_any : selK (-1) = anyK := rfl
theorem selK_pos {m : Int} (h : 0 ≤ m) : selK m = isK m := by
  funext x
  unfold selK isK
  rw [decide_eq_true h, if_pos rfl]
theorem filter_take {q : Bs → Bool} {l : List Bs} {i : Nat} (hi : i < l.length) : (l.take (i + 1)).filter q = (l.take i).filter q ++ (if q l[i] then [l[i]] else []) := by
  rw [List.take_add_one, List.getElem?_eq_getElem hi, List.filter_append]
  congr 1
  show [l[i]].filter q = _
  rw [List.filter_cons]
  rfl
noncomputable def g_withR36 : List D → Option D := encSpec (fun x : Bs × Int => [.str x.1, i64 x.2]) (fun x : Bs × Int => x.1.length ≤ 1000000000) (fun x : Bs × Int => .list ((withoutB (selK x.2) x.1).map .str))
theorem g_withR36_eq {s : Bs} {m : Int} (hd : s.length ≤ 1000000000) : g_withR36 [.str s, .int .i64 m] = some (.list ((withoutB (selK m) s).map .str)) := encSpec_eq (x := (s, m)) hd fun y hy => by
    obtain ⟨y0, y1⟩ := y; simp only [List.cons.injEq, and_true, true_and, D.str.injEq, D.int.injEq, D.list.injEq, D.bool.injEq, D.agg.injEq, D.clo.injEq, Int.natCast_inj, inj_ie] at hy
    (try obtain ⟨rfl, rfl⟩ := hy)
    (try subst_vars)
    rfl
theorem f_withR36_ok : PureOK Tryz.prog 52 false g_withR36 := by
  have hΓ := Γp f_linesR36_ok (Γp f_readR36_ok (Γn))
  refine pure_enc (n := 46) (rs := [.tmp 4]) Tryz.func52 (by kernel_rfl) rfl (by kernel_rfl) (by kernel_rfl) ?_
  rintro ⟨s, m⟩ hd
  (try dsimp only at hd ⊢)
  refine ⟨fun h => (by cases h), fun k hz0 => ?_⟩
  have e1 := g_linesR36_eq (s := s) (Nat.le_trans hd (by decide))
  have hm := splitB_mem_len 10 s
  have hl := splitB_len 10 s
  unfold withoutB
  generalize splitB 10 s = l at *
  rw [start_frame (by simp)]; simp only [enumV, go_sem, emptyH]
  repeat (first
    | (apply axJ; (focus ((with_reducible constructor) <;> rfl)))
    | (apply awT mixedOK hΓ (by kernel_rfl); (simp (disch := omega) only [go_sem, ↓reduceIte, dk, ↓lk, e1] <;> with_reducible rfl))
    | ((first | apply awR hΓ | apply awG | apply awH mixedOK hΓ rfl (by kernel_rfl) | apply ovE rfl); (simp (disch := omega) only [go_sem, ↓reduceIte, dk, ↓lk, e1] <;> with_reducible rfl); exact trivial)
    | rfl)
  refine awp_weak (Weak.nilrowF (i := 6) 9 (sz := 1) (by omega) (by omega) rfl) ?_
  refine awp_loop_at (X := Nat) (fun i => (frame 46 [(1, .data (i64 m)), (5, .data (.list (l.map .str))), (6, .row 6 ((l.take i).filter (keepB (selK m))).length), (7, .data (i64 i))])) (fun i => [(6, .row 9 1 (((l.take i).filter (keepB (selK m))).map .str))]) 7
    (fun i => i ≤ l.length) (fun i => l.length - i) 0 (Nat.zero_le _) (Weak.v (by (simp [ConvF, lookV, Conv, ints, upd, List.take_zero, List.filter_nil]; done)) (by (simp (disch := omega) only [TabSub, look, if_pos, if_neg, Obj.refsOK, refsOKs, AV.refsOK, decide_eq_true_eq, Bool.and_true, Bool.and_self, upd, List.take_zero, List.filter_nil] ) <;> ((repeat' apply And.intro) <;> first | exact True.intro | omega | (simp; done) | rfl))) ?_
  intro i hi
  (try dsimp only at hi ⊢)
  by_cases hi2 : i < l.length
  · have hst := filter_take (q := keepB (selK m)) hi2
    have hsl := List.length_filter_le (keepB (selK m)) (l.take i)
    have htl : (l.take i).length ≤ l.length := by rw [List.length_take]; omega
    have e2 := g_readR36_eq (s := l[i]) (by have := hm _ (List.getElem_mem hi2); omega)
    have hk : keepB (selK m) l[i] = !((hdB 0 l[i]).2 && (if decide (m ≥ 0) then (hdB 0 l[i]).1.kind == m else true)) := rfl
    rw [hk] at hst
    clear hk
    generalize hy : l[i] = y at *
    generalize hh : hdB 0 y = q at *
    obtain ⟨h, ok⟩ := q
    dsimp only at hst e2
    generalize (l.take i).filter (keepB (selK m)) = acc at *
    have hm2 : (acc ++ [y]).map D.str = acc.map D.str ++ [.str y] := by rw [List.map_append]; rfl
    generalize hc1 : decide (m ≥ 0) = c1 at *
    have hc3 : (h.kind != m) = !(h.kind == m) := rfl
    generalize (h.kind == m) = c2 at *
    cases ok
    · simp only [Bool.true_and, Bool.false_and, Bool.not_true, Bool.not_false, Bool.false_eq_true, ↓reduceIte, List.append_nil] at hst
      repeat (first
        | (apply axJ; (focus ((with_reducible constructor) <;> rfl)))
        | (apply awT mixedOK hΓ (by kernel_rfl); (simp (disch := omega) only [go_sem, ↓reduceIte, dk, ↓lk, Int.reduceBEq, Int.reduceBNe, Bool.true_bne, Bool.false_bne, Bool.not_true, Bool.not_false, hy, e2] <;> with_reducible rfl))
        | ((first | apply awR hΓ | apply awG | apply awH mixedOK hΓ rfl (by kernel_rfl) | apply ovE rfl); (simp (disch := omega) only [go_sem, ↓reduceIte, dk, ↓lk, Int.reduceBEq, Int.reduceBNe, Bool.true_bne, Bool.false_bne, Bool.not_true, Bool.not_false, hy, e2] <;> with_reducible rfl); exact trivial)
        | rfl)
      exact ⟨i + 1, by omega, by omega, by rw [hst]; exact Weak.v (by (simp [ConvF, lookV, Conv, ints, hm2]; done)) (by (simp (disch := omega) only [TabSub, look, if_pos, if_neg, Obj.refsOK, refsOKs, AV.refsOK, decide_eq_true_eq, Bool.and_true, Bool.and_self, hm2] ) <;> ((repeat' apply And.intro) <;> first | exact True.intro | omega | (simp; done) | rfl))⟩
    · cases c1
      · simp only [Bool.true_and, Bool.false_and, Bool.not_true, Bool.not_false, Bool.false_eq_true, ↓reduceIte, List.append_nil] at hst
        repeat (first
          | (apply axJ; (focus ((with_reducible constructor) <;> rfl)))
          | (apply awT mixedOK hΓ (by kernel_rfl); (simp (disch := omega) only [go_sem, ↓reduceIte, dk, ↓lk, Int.reduceBEq, Int.reduceBNe, Bool.true_bne, Bool.false_bne, Bool.not_true, Bool.not_false, hy, e2, hc1] <;> with_reducible rfl))
          | ((first | apply awR hΓ | apply awG | apply awH mixedOK hΓ rfl (by kernel_rfl) | apply ovE rfl); (simp (disch := omega) only [go_sem, ↓reduceIte, dk, ↓lk, Int.reduceBEq, Int.reduceBNe, Bool.true_bne, Bool.false_bne, Bool.not_true, Bool.not_false, hy, e2, hc1] <;> with_reducible rfl); exact trivial)
          | rfl)
        exact ⟨i + 1, by omega, by omega, by rw [hst]; exact Weak.w⟩
      · cases c2
        · simp only [Bool.true_and, Bool.false_and, Bool.not_true, Bool.not_false, Bool.false_eq_true, ↓reduceIte, List.append_nil] at hst
          repeat (first
            | (apply axJ; (focus ((with_reducible constructor) <;> rfl)))
            | (apply awT mixedOK hΓ (by kernel_rfl); (simp (disch := omega) only [go_sem, ↓reduceIte, dk, ↓lk, Int.reduceBEq, Int.reduceBNe, Bool.true_bne, Bool.false_bne, Bool.not_true, Bool.not_false, hy, e2, hc1, hc3] <;> with_reducible rfl))
            | ((first | apply awR hΓ | apply awG | apply awH mixedOK hΓ rfl (by kernel_rfl) | apply ovE rfl); (simp (disch := omega) only [go_sem, ↓reduceIte, dk, ↓lk, Int.reduceBEq, Int.reduceBNe, Bool.true_bne, Bool.false_bne, Bool.not_true, Bool.not_false, hy, e2, hc1, hc3] <;> with_reducible rfl); exact trivial)
            | rfl)
          exact ⟨i + 1, by omega, by omega, by rw [hst]; exact Weak.v (by (simp [ConvF, lookV, Conv, ints, hm2]; done)) (by (simp (disch := omega) only [TabSub, look, if_pos, if_neg, Obj.refsOK, refsOKs, AV.refsOK, decide_eq_true_eq, Bool.and_true, Bool.and_self, hm2] ) <;> ((repeat' apply And.intro) <;> first | exact True.intro | omega | (simp; done) | rfl))⟩
        · simp only [Bool.true_and, Bool.false_and, Bool.not_true, Bool.not_false, Bool.false_eq_true, ↓reduceIte, List.append_nil] at hst
          repeat (first
            | (apply axJ; (focus ((with_reducible constructor) <;> rfl)))
            | (apply awT mixedOK hΓ (by kernel_rfl); (simp (disch := omega) only [go_sem, ↓reduceIte, dk, ↓lk, Int.reduceBEq, Int.reduceBNe, Bool.true_bne, Bool.false_bne, Bool.not_true, Bool.not_false, hy, e2, hc1, hc3] <;> with_reducible rfl))
            | ((first | apply awR hΓ | apply awG | apply awH mixedOK hΓ rfl (by kernel_rfl) | apply ovE rfl); (simp (disch := omega) only [go_sem, ↓reduceIte, dk, ↓lk, Int.reduceBEq, Int.reduceBNe, Bool.true_bne, Bool.false_bne, Bool.not_true, Bool.not_false, hy, e2, hc1, hc3] <;> with_reducible rfl); exact trivial)
            | rfl)
          exact ⟨i + 1, by omega, by omega, by rw [hst]; exact Weak.w⟩
  · have hi3 : i = l.length := by omega
    subst hi3
    rw [List.take_length]
    repeat (first
      | (apply axJ; (focus ((with_reducible constructor) <;> rfl)))
      | (apply awT mixedOK hΓ (by kernel_rfl); (simp (disch := omega) only [go_sem, ↓reduceIte, dk, ↓lk] <;> with_reducible rfl))
      | ((first | apply awR hΓ | apply awG | apply awH mixedOK hΓ rfl (by kernel_rfl) | apply ovE rfl); (simp (disch := omega) only [go_sem, ↓reduceIte, dk, ↓lk] <;> with_reducible rfl); exact trivial)
      | rfl)
    try rfl
noncomputable def g_stripR36 : List D → Option D := encSpec (fun x : Bs => [.str x]) (fun x : Bs => x.length ≤ 1000000000) (fun x : Bs => .str (stripB x))
theorem g_stripR36_eq {s : Bs} (hd : s.length ≤ 1000000000) : g_stripR36 [.str s] = some (.str (stripB s)) := encSpec_eq (x := s) hd fun y hy => by
    simp only [List.cons.injEq, and_true, true_and, D.str.injEq, D.int.injEq, D.list.injEq, D.bool.injEq, D.agg.injEq, D.clo.injEq, Int.natCast_inj, inj_ie] at hy
    rw [hy]
theorem f_stripR36_ok : PureOK Tryz.prog 16 true g_stripR36 := by
  have hΓ := Γp f_withR36_ok (Γp f_joinR36_ok (Γn))
  refine pure_enc (n := 6) (rs := [.tmp 2]) Tryz.func16 (by kernel_rfl) rfl (by kernel_rfl) (by kernel_rfl) ?_
  rintro s hd
  (try dsimp only at hd ⊢)
  refine ⟨fun _ => by (repeat (first | exact .int _ _ | exact .bool _ | exact .str _ | (refine .tup _ (fun d hd => ?_); simp only [List.mem_cons, List.not_mem_nil, or_false] at hd; rcases hd with rfl | hd))), fun k hz0 => ?_⟩
  have hw := without_len anyK s
  have hj := join_len anyK s
  have e1 := g_withR36_eq (s := s) (m := -1) hd
  rw [selK_any] at e1
  have e2 := g_joinR36_eq (l := withoutB anyK s) ⟨by omega, by omega⟩
  unfold stripB joinB
  generalize withoutB anyK s = l at *
  rw [start_frame (by simp)]; simp only [enumV, go_sem, emptyH]
  repeat (first
    | (apply axJ; (focus ((with_reducible constructor) <;> rfl)))
    | (apply awT mixedOK hΓ (by kernel_rfl); (simp (disch := omega) only [go_sem, ↓reduceIte, dk, ↓lk, e1, e2] <;> with_reducible rfl))
    | ((first | apply awR hΓ | apply awG | apply awH mixedOK hΓ rfl (by kernel_rfl) | apply ovE rfl); (simp (disch := omega) only [go_sem, ↓reduceIte, dk, ↓lk, e1, e2] <;> with_reducible rfl); exact trivial)
    | rfl)
  try rfl
noncomputable def g_writeR36 : List D → Option D := encSpec (fun x : Int × Bs => [i64 x.1, .str x.2]) (fun x : Int × Bs => x.2.length ≤ 1099511627776) (fun x : Int × Bs => .tup [.str (writeB x.1 x.2).1, .int .i64 (writeB x.1 x.2).2])
theorem g_writeR36_eq {m : Int} {s : Bs} (hd : s.length ≤ 1099511627776) : g_writeR36 [.int .i64 m, .str s] = some (.tup [.str (writeB m s).1, .int .i64 (writeB m s).2]) := encSpec_eq (x := (m, s)) hd fun y hy => by
    obtain ⟨y0, y1⟩ := y; simp only [List.cons.injEq, and_true, true_and, D.str.injEq, D.int.injEq, D.list.injEq, D.bool.injEq, D.agg.injEq, D.clo.injEq, Int.natCast_inj, inj_ie] at hy
    (try obtain ⟨rfl, rfl⟩ := hy)
    (try subst_vars)
    rfl
theorem f_writeR36_ok : PureOK Tryz.prog 25 true g_writeR36 := by
  have hΓ := Γp f_wordsR36_ok (Γp f_textR36_ok (Γn))
  refine pure_enc (n := 23) (rs := [.tmp 4, .tmp 5]) Tryz.func25 (by kernel_rfl) rfl (by kernel_rfl) (by kernel_rfl) ?_
  rintro ⟨m, s⟩ hd
  (try dsimp only at hd ⊢)
  refine ⟨fun _ => by (refine .tup _ (fun d hd => ?_); simp only [List.mem_cons, List.not_mem_nil, or_false] at hd; repeat (first | exact .int _ _ | exact .bool _ | exact .str _ | (rcases hd with rfl | hd) | subst hd | (refine .agg _ (fun d hd => ?_); simp only [List.mem_cons, List.not_mem_nil, or_false] at hd))), fun k hz0 => ?_⟩
  have ew := g_wordsR36_eq trivial
  have ei := g_textR36_eq hd
  have ht := @isT_trim s
  unfold writeB
  rw [start_frame (by simp)]; simp only [enumV, go_sem, emptyH]
  by_cases h0 : m = 0
  · subst h0
    generalize isT s = c at *
    cases c
    · repeat (first
      | (apply axJ; (focus ((with_reducible constructor) <;> rfl)))
      | (apply awT mixedOK hΓ (by kernel_rfl); (simp (disch := omega) only [go_sem, ↓reduceIte, dk, ↓lk, Int.reduceBEq, Int.reduceBNe, Bool.true_bne, Bool.false_bne, Bool.not_true, Bool.not_false, Int.reduceToNat, List.getElem?_cons_zero, List.getElem?_cons_succ, ew, ei] <;> with_reducible rfl))
      | ((first | apply awR hΓ | apply awG | apply awH mixedOK hΓ rfl (by kernel_rfl) | apply ovE rfl); (simp (disch := omega) only [go_sem, ↓reduceIte, dk, ↓lk, Int.reduceBEq, Int.reduceBNe, Bool.true_bne, Bool.false_bne, Bool.not_true, Bool.not_false, Int.reduceToNat, List.getElem?_cons_zero, List.getElem?_cons_succ, ew, ei] <;> with_reducible rfl); exact trivial)
      | rfl)
      try rfl
    · have hl := (ht rfl).2.1
      have he : lineB 0 s = [35, 32] ++ kLic ++ [32] ++ s := by simp [lineB, wordH]
      have hk : kLic.length = 8 := rfl
      rw [show ((0 : Int) == 0 || (0 : Int) == 1) = true from rfl, if_pos rfl, if_pos rfl, he]
      generalize kLic = k1 at *
      generalize kCop = k2 at *
      repeat (first
        | (apply axJ; (focus ((with_reducible constructor) <;> rfl)))
        | (apply awT mixedOK hΓ (by kernel_rfl); (simp (disch := (first | omega | (simp only [maxLen, List.length_append, List.length_cons, List.length_nil]; omega))) only [go_sem, ↓reduceIte, ↓if_pos, ↓if_neg, decide_eq_true, decide_eq_false, if_pos, if_neg, wrap_in, ↓lk, Int.reduceBEq, Int.reduceBNe, Bool.true_bne, Bool.false_bne, Bool.not_true, Bool.not_false, Int.reduceToNat, List.getElem?_cons_zero, List.getElem?_cons_succ, ew, ei] <;> with_reducible rfl))
        | ((first | apply awR hΓ | apply awG | apply awH mixedOK hΓ rfl (by kernel_rfl) | apply ovE rfl); (simp (disch := (first | omega | (simp only [maxLen, List.length_append, List.length_cons, List.length_nil]; omega))) only [go_sem, ↓reduceIte, ↓if_pos, ↓if_neg, decide_eq_true, decide_eq_false, if_pos, if_neg, wrap_in, ↓lk, Int.reduceBEq, Int.reduceBNe, Bool.true_bne, Bool.false_bne, Bool.not_true, Bool.not_false, Int.reduceToNat, List.getElem?_cons_zero, List.getElem?_cons_succ, ew, ei] <;> with_reducible rfl); exact trivial)
        | rfl)
      try rfl
  have h2 : (m != 0) = true := by simpa [bne] using h0
  by_cases h1 : m = 1
  · subst h1
    generalize isT s = c at *
    cases c
    · repeat (first
      | (apply axJ; (focus ((with_reducible constructor) <;> rfl)))
      | (apply awT mixedOK hΓ (by kernel_rfl); (simp (disch := omega) only [go_sem, ↓reduceIte, dk, ↓lk, Int.reduceBEq, Int.reduceBNe, Bool.true_bne, Bool.false_bne, Bool.not_true, Bool.not_false, Int.reduceToNat, List.getElem?_cons_zero, List.getElem?_cons_succ, ew, ei] <;> with_reducible rfl))
      | ((first | apply awR hΓ | apply awG | apply awH mixedOK hΓ rfl (by kernel_rfl) | apply ovE rfl); (simp (disch := omega) only [go_sem, ↓reduceIte, dk, ↓lk, Int.reduceBEq, Int.reduceBNe, Bool.true_bne, Bool.false_bne, Bool.not_true, Bool.not_false, Int.reduceToNat, List.getElem?_cons_zero, List.getElem?_cons_succ, ew, ei] <;> with_reducible rfl); exact trivial)
      | rfl)
      try rfl
    · have hl := (ht rfl).2.1
      have he : lineB 1 s = [35, 32] ++ kCop ++ [32] ++ s := by simp [lineB, wordH]
      have hk : kCop.length = 10 := rfl
      rw [show ((1 : Int) == 0 || (1 : Int) == 1) = true from rfl, if_pos rfl, if_pos rfl, he]
      generalize kLic = k1 at *
      generalize kCop = k2 at *
      repeat (first
        | (apply axJ; (focus ((with_reducible constructor) <;> rfl)))
        | (apply awT mixedOK hΓ (by kernel_rfl); (simp (disch := (first | omega | (simp only [maxLen, List.length_append, List.length_cons, List.length_nil]; omega))) only [go_sem, ↓reduceIte, ↓if_pos, ↓if_neg, decide_eq_true, decide_eq_false, if_pos, if_neg, wrap_in, ↓lk, Int.reduceBEq, Int.reduceBNe, Bool.true_bne, Bool.false_bne, Bool.not_true, Bool.not_false, Int.reduceToNat, List.getElem?_cons_zero, List.getElem?_cons_succ, ew, ei] <;> with_reducible rfl))
        | ((first | apply awR hΓ | apply awG | apply awH mixedOK hΓ rfl (by kernel_rfl) | apply ovE rfl); (simp (disch := (first | omega | (simp only [maxLen, List.length_append, List.length_cons, List.length_nil]; omega))) only [go_sem, ↓reduceIte, ↓if_pos, ↓if_neg, decide_eq_true, decide_eq_false, if_pos, if_neg, wrap_in, ↓lk, Int.reduceBEq, Int.reduceBNe, Bool.true_bne, Bool.false_bne, Bool.not_true, Bool.not_false, Int.reduceToNat, List.getElem?_cons_zero, List.getElem?_cons_succ, ew, ei] <;> with_reducible rfl); exact trivial)
        | rfl)
      try rfl
  have hb : (m == 0 || m == 1) = false := by simp [h0, h1]
  have h3 : (m != 1) = true := by simpa [bne] using h1
  rw [hb]
  repeat (first
    | (apply axJ; (focus ((with_reducible constructor) <;> rfl)))
    | (apply awT mixedOK hΓ (by kernel_rfl); (simp (disch := omega) only [go_sem, ↓reduceIte, dk, ↓lk, Int.reduceBEq, Int.reduceBNe, Bool.true_bne, Bool.false_bne, Bool.not_true, Bool.not_false, h2, h3] <;> with_reducible rfl))
    | ((first | apply awR hΓ | apply awG | apply awH mixedOK hΓ rfl (by kernel_rfl) | apply ovE rfl); (simp (disch := omega) only [go_sem, ↓reduceIte, dk, ↓lk, Int.reduceBEq, Int.reduceBNe, Bool.true_bne, Bool.false_bne, Bool.not_true, Bool.not_false, h2, h3] <;> with_reducible rfl); exact trivial)
    | rfl)
  try rfl
theorem writeB_ok {m : Int} {s : Bs} (h : (writeB m s).2 = 0) : m = 0 ∨ m = 1 := by
  unfold writeB at h
  split at h
  · rename_i hm
    simpa using hm
  · cases h
noncomputable def g_putR36 : List D → Option D := encSpec (fun x : Bs × Int × Bs => [.str x.1, i64 x.2.1, .str x.2.2]) (fun x : Bs × Int × Bs => x.1.length ≤ 1000000000 ∧ x.2.2.length ≤ 1000000000) (fun x : Bs × Int × Bs => .tup [.str (putB x.1 x.2.1 x.2.2).1, .int .i64 (putB x.1 x.2.1 x.2.2).2])
theorem g_putR36_eq {s : Bs} {m : Int} {u : Bs} (hd : s.length ≤ 1000000000 ∧ u.length ≤ 1000000000) : g_putR36 [.str s, .int .i64 m, .str u] = some (.tup [.str (putB s m u).1, .int .i64 (putB s m u).2]) := encSpec_eq (x := (s, m, u)) hd fun y hy => by
    obtain ⟨y0, y1, y2⟩ := y; simp only [List.cons.injEq, and_true, true_and, D.str.injEq, D.int.injEq, D.list.injEq, D.bool.injEq, D.agg.injEq, D.clo.injEq, Int.natCast_inj, inj_ie] at hy
    (try obtain ⟨rfl, rfl, rfl⟩ := hy)
    (try subst_vars)
    rfl
theorem f_putR36_ok : PureOK Tryz.prog 27 true g_putR36 := by
  have hΓ := Γp f_writeR36_ok (Γp f_withR36_ok (Γp f_joinR36_ok (Γn)))
  refine pure_enc (n := 28) (rs := [.tmp 6, .tmp 7]) Tryz.func27 (by kernel_rfl) rfl (by kernel_rfl) (by kernel_rfl) ?_
  rintro ⟨s, m, u⟩ hd
  (try dsimp only at hd ⊢)
  refine ⟨fun _ => by (refine .tup _ (fun d hd => ?_); simp only [List.mem_cons, List.not_mem_nil, or_false] at hd; repeat (first | exact .int _ _ | exact .bool _ | exact .str _ | (rcases hd with rfl | hd) | subst hd | (refine .agg _ (fun d hd => ?_); simp only [List.mem_cons, List.not_mem_nil, or_false] at hd))), fun k hz0 => ?_⟩
  obtain ⟨hs, hu⟩ := hd
  have e0 := g_writeR36_eq (m := m) (s := u) (Nat.le_trans hu (by decide))
  have hwl := write_len m u
  have hw := without_len (isK m) s
  have hj := lens_without (isK m) s
  have e1 := g_withR36_eq (m := m) hs
  have hok := @writeB_ok m u
  unfold putB
  generalize writeB m u = p at *
  obtain ⟨a, e⟩ := p
  dsimp only at e0 hwl hok
  have hj2 := jn_le (a :: withoutB (isK m) s)
  have hj3 : lens (a :: withoutB (isK m) s) = a.length + 1 + lens (withoutB (isK m) s) := by simp [lens]
  have e2 := g_joinR36_eq (l := a :: withoutB (isK m) s) ⟨by rw [List.length_cons]; omega, by unfold joinB at hj2; omega⟩
  rw [List.map_cons] at e2
  have hjb : joinB (a :: withoutB (isK m) s) = Lib.join (a :: withoutB (isK m) s) [10] := rfl
  dsimp only
  rw [hjb]
  rw [start_frame (by simp)]; simp only [enumV, go_sem, emptyH]
  by_cases he : e = 0
  · rw [selK_pos (by have := hok he; omega)] at e1
    subst he
    generalize withoutB (isK m) s = l at *
    repeat (first
      | (apply axJ; (focus ((with_reducible constructor) <;> rfl)))
      | (apply awT mixedOK hΓ (by kernel_rfl); (simp (disch := omega) only [go_sem, ↓reduceIte, dk, ↓lk, Int.reduceBEq, Int.reduceBNe, Bool.true_bne, Bool.false_bne, Bool.not_true, Bool.not_false, e0, e1, e2] <;> with_reducible rfl))
      | ((first | apply awR hΓ | apply awG | apply awH mixedOK hΓ rfl (by kernel_rfl) | apply ovE rfl); (simp (disch := omega) only [go_sem, ↓reduceIte, dk, ↓lk, Int.reduceBEq, Int.reduceBNe, Bool.true_bne, Bool.false_bne, Bool.not_true, Bool.not_false, e0, e1, e2] <;> with_reducible rfl); exact trivial)
      | rfl)
    try rfl
  · have h1 : (e == 0) = false := by simpa using he
    have h2 : (e != 0) = true := by simpa [bne] using he
    rw [h1]
    repeat (first
      | (apply axJ; (focus ((with_reducible constructor) <;> rfl)))
      | (apply awT mixedOK hΓ (by kernel_rfl); (simp (disch := omega) only [go_sem, ↓reduceIte, dk, ↓lk, Int.reduceBEq, Int.reduceBNe, Bool.true_bne, Bool.false_bne, Bool.not_true, Bool.not_false, e0, h2] <;> with_reducible rfl))
      | ((first | apply awR hΓ | apply awG | apply awH mixedOK hΓ rfl (by kernel_rfl) | apply ovE rfl); (simp (disch := omega) only [go_sem, ↓reduceIte, dk, ↓lk, Int.reduceBEq, Int.reduceBNe, Bool.true_bne, Bool.false_bne, Bool.not_true, Bool.not_false, e0, h2] <;> with_reducible rfl); exact trivial)
      | rfl)
    try rfl
end Go.Ab
