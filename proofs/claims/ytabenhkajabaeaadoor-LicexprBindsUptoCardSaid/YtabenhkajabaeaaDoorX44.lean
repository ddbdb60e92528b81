/-
  One text of the proof (own work): contracts of functions of the program, by the abstract machine.
-/
import Derived.Test.YtabenhkajabaeaaDoorX23
import Derived.Test.YtabenhkajabaeaaDoorX42
import Derived.Test.YtabenhkajabaeaaDoorX27
import Derived.Test.YtabenhkajabaeaaDoorX43
import Derived.Test.YtabenhkajabaeaaDoorX41
import Derived.Test.YtabenhkajabaeaaDoorX28
set_option linter.unusedVariables false
set_option linter.unusedSimpArgs false
namespace Go.Ab
open Go Go.RowKit Go.Proofs
set_option maxRecDepth 10000
set_option maxHeartbeats 8000000
noncomputable def g_textP (h : Nat) : List D → Option D := encSpec (fun x : LX => [eX x]) (fun x : LX => x.hgt ≤ h ∧ x.Bd 1099511627776 ∧ TxOK x) (fun x : LX => .str (textX x))
theorem g_textP_eq {h : Nat} {x : LX} (hd : x.hgt ≤ h ∧ x.Bd 1099511627776 ∧ TxOK x) : g_textP h [.agg [.int .i64 x.kind, .str x.name, .str x.exc, .list (x.kids.map eX)]] = some (.str (textX x)) := by
  have e : g_textP h [eX x] = some (.str (textX x)) := encSpec_eq (x := x) hd fun y hy => by
    simp only [List.cons.injEq, and_true, true_and, D.str.injEq, D.int.injEq, D.list.injEq, D.bool.injEq, D.agg.injEq, D.clo.injEq, Int.natCast_inj, inj_ie] at hy
    rw [hy]
  exact (congrArg (g_textP h) (by rw [← eX_eq x])).trans e
theorem f_textP_ok : ∀ h : Nat, PureOK Tryd.prog 36 true (g_textP h)
 | 0 => pure_void (by
    rintro x ⟨hx, _⟩
    (try dsimp only at hx)
    have := x.hgt_pos
    omega)
 | h + 1 => by
  have ih := f_textP_ok h
  have hΓ := Γp ih (Γp f_join_ok (Γn))
  refine pure_enc (n := 66) (rs := [.tmp 2]) Tryd.func36 (by kernel_rfl) rfl (by kernel_rfl) (by kernel_rfl) ?_
  rintro x hd
  (try dsimp only at hd ⊢)
  refine ⟨fun _ => by (repeat (first | exact .int _ _ | exact .bool _ | exact .str _ | (refine .tup _ (fun d hd => ?_); simp only [List.mem_cons, List.not_mem_nil, or_false] at hd; rcases hd with rfl | hd))), fun k hz0 => ?_⟩
  have hbd := hd.2.1
  have hn := hbd.n
  have hee := hbd.e
  have hz := hbd.z
  have hl := x.len_le
  have hkc := node_cases (formE_node hd.2.2.2)
  rw [textX_eq]
  rw [start_frame (by simp)]; simp only [enumV, go_sem, emptyH]
  rcases hkc with ⟨hk, h1, h2, h3⟩ | ⟨hk, h1, h2, h3⟩
  · have hl := isNameB_len h2
    rcases hk with hk | hk
    · rw [hk]
      have he : x.exc.length ≤ 32 := by
        rcases h3 with h3 | h3
        · rw [h3]; exact Nat.zero_le _
        · exact isNameB_len h3.2
      have hl2 : (x.name ++ [32, 119, 105, 116, 104, 32]).length ≤ 64 := by simp only [List.length_append, List.length_cons, List.length_nil]; omega
      generalize hc : (x.exc == []) = c
      cases c
      · repeat (first
        | (apply axJ; (focus ((with_reducible constructor) <;> rfl)))
        | (apply awT mixedOK hΓ (by kernel_rfl); (simp (disch := omega) only [go_sem, ↓reduceIte, dk, Int.reduceBEq, Int.reduceBNe, Bool.true_bne, Bool.false_bne, Bool.not_true, Bool.not_false, hk, hc] <;> with_reducible rfl))
        | ((first | apply awR hΓ | apply awG | apply awH mixedOK hΓ rfl (by kernel_rfl) | apply ovE rfl); (simp (disch := omega) only [go_sem, ↓reduceIte, dk, Int.reduceBEq, Int.reduceBNe, Bool.true_bne, Bool.false_bne, Bool.not_true, Bool.not_false, hk, hc] <;> with_reducible rfl); exact trivial)
        | rfl)
        try rfl
      · repeat (first
        | (apply axJ; (focus ((with_reducible constructor) <;> rfl)))
        | (apply awT mixedOK hΓ (by kernel_rfl); (simp (disch := omega) only [go_sem, ↓reduceIte, dk, Int.reduceBEq, Int.reduceBNe, Bool.true_bne, Bool.false_bne, Bool.not_true, Bool.not_false, hk, hc] <;> with_reducible rfl))
        | ((first | apply awR hΓ | apply awG | apply awH mixedOK hΓ rfl (by kernel_rfl) | apply ovE rfl); (simp (disch := omega) only [go_sem, ↓reduceIte, dk, Int.reduceBEq, Int.reduceBNe, Bool.true_bne, Bool.false_bne, Bool.not_true, Bool.not_false, hk, hc] <;> with_reducible rfl); exact trivial)
        | rfl)
        try rfl
    · rw [hk]
      repeat (first
        | (apply axJ; (focus ((with_reducible constructor) <;> rfl)))
        | (apply awT mixedOK hΓ (by kernel_rfl); (simp (disch := omega) only [go_sem, ↓reduceIte, dk, Int.reduceBEq, Int.reduceBNe, Bool.true_bne, Bool.false_bne, Bool.not_true, Bool.not_false, hk] <;> with_reducible rfl))
        | ((first | apply awR hΓ | apply awG | apply awH mixedOK hΓ rfl (by kernel_rfl) | apply ovE rfl); (simp (disch := omega) only [go_sem, ↓reduceIte, dk, Int.reduceBEq, Int.reduceBNe, Bool.true_bne, Bool.false_bne, Bool.not_true, Bool.not_false, hk] <;> with_reducible rfl); exact trivial)
        | rfl)
      try rfl
  · obtain ⟨hk0, hk1, hk23⟩ : (x.kind == 0) = false ∧ (x.kind == 1) = false ∧ sepX x.kind = (if x.kind == 3 then [32, 111, 114, 32] else [32, 97, 110, 100, 32]) := by
      rcases hk with hk | hk <;> (rw [hk]; exact ⟨rfl, rfl, rfl⟩)
    rw [hk0, hk1]
    generalize hc2 : (x.kind == 3) = c2 at *
    repeat (first
      | (apply axJ; (focus ((with_reducible constructor) <;> rfl)))
      | (apply awT mixedOK hΓ (by kernel_rfl); (simp (disch := omega) only [go_sem, ↓reduceIte, dk, Int.reduceBEq, Int.reduceBNe, Bool.true_bne, Bool.false_bne, Bool.not_true, Bool.not_false, hk0, hk1, hc2] <;> with_reducible rfl))
      | ((first | apply awR hΓ | apply awG | apply awH mixedOK hΓ rfl (by kernel_rfl) | apply ovE rfl); (simp (disch := omega) only [go_sem, ↓reduceIte, dk, Int.reduceBEq, Int.reduceBNe, Bool.true_bne, Bool.false_bne, Bool.not_true, Bool.not_false, hk0, hk1, hc2] <;> with_reducible rfl); exact trivial)
      | rfl)
    refine awp_mid (fun _ : Unit => (frame 66 [(1, .ptr 0 0), (3, .data (.str (sepX x.kind)))])) (fun _ => [(0, .box [.data (.int .i64 x.kind), .data (.str x.name), .data (.str x.exc), .data (.list (x.kids.map eX))])]) 40 (fun _ => True) ?_ ?_
    · cases c2
      · rw [if_neg (by decide)] at hk23
        repeat (first
          | (apply axJ; (focus ((with_reducible constructor) <;> rfl)))
          | (apply awT mixedOK hΓ (by kernel_rfl); (simp (disch := omega) only [go_sem, ↓reduceIte, dk, Int.reduceBEq, Int.reduceBNe, Bool.true_bne, Bool.false_bne, Bool.not_true, Bool.not_false] <;> with_reducible rfl))
          | ((first | apply awR hΓ | apply awG | apply awH mixedOK hΓ rfl (by kernel_rfl) | apply ovE rfl); (simp (disch := omega) only [go_sem, ↓reduceIte, dk, Int.reduceBEq, Int.reduceBNe, Bool.true_bne, Bool.false_bne, Bool.not_true, Bool.not_false] <;> with_reducible rfl); exact trivial)
          | rfl)
        exact ⟨(), trivial, Weak.v (by (simp [ConvF, lookV, Conv, ints, hk23]; done)) (by (simp (disch := omega) only [TabSub, look, if_pos, if_neg, Obj.refsOK, refsOKs, AV.refsOK, decide_eq_true_eq, Bool.and_true, Bool.and_self, hk23] ) <;> ((repeat' apply And.intro) <;> first | exact True.intro | omega | (simp; done) | rfl))⟩
      · rw [if_pos rfl] at hk23
        repeat (first
          | (apply axJ; (focus ((with_reducible constructor) <;> rfl)))
          | (apply awT mixedOK hΓ (by kernel_rfl); (simp (disch := omega) only [go_sem, ↓reduceIte, dk, Int.reduceBEq, Int.reduceBNe, Bool.true_bne, Bool.false_bne, Bool.not_true, Bool.not_false] <;> with_reducible rfl))
          | ((first | apply awR hΓ | apply awG | apply awH mixedOK hΓ rfl (by kernel_rfl) | apply ovE rfl); (simp (disch := omega) only [go_sem, ↓reduceIte, dk, Int.reduceBEq, Int.reduceBNe, Bool.true_bne, Bool.false_bne, Bool.not_true, Bool.not_false] <;> with_reducible rfl); exact trivial)
          | rfl)
        exact ⟨(), trivial, Weak.v (by (simp [ConvF, lookV, Conv, ints, hk23]; done)) (by (simp (disch := omega) only [TabSub, look, if_pos, if_neg, Obj.refsOK, refsOKs, AV.refsOK, decide_eq_true_eq, Bool.and_true, Bool.and_self, hk23] ) <;> ((repeat' apply And.intro) <;> first | exact True.intro | omega | (simp; done) | rfl))⟩
    intro _ _
    repeat (first
      | (apply axJ; (focus ((with_reducible constructor) <;> rfl)))
      | (apply awT mixedOK hΓ (by kernel_rfl); (simp (disch := omega) only [go_sem, ↓reduceIte, dk, Int.reduceBEq, Int.reduceBNe, Bool.true_bne, Bool.false_bne, Bool.not_true, Bool.not_false, ↓lk] <;> with_reducible rfl))
      | ((first | apply awR hΓ | apply awG | apply awH mixedOK hΓ rfl (by kernel_rfl) | apply ovE rfl); (simp (disch := omega) only [go_sem, ↓reduceIte, dk, Int.reduceBEq, Int.reduceBNe, Bool.true_bne, Bool.false_bne, Bool.not_true, Bool.not_false, ↓lk] <;> with_reducible rfl); exact trivial)
      | rfl)
    refine awp_weak (Weak.nilrowF (i := 4) 9 (sz := 1) (by omega) (by omega) rfl) ?_
    have hsl : (sepX x.kind).length ≤ 5 := by unfold sepX; split <;> simp
    refine awp_loop_at (X := Nat) (fun i => (frame 66 [(1, .ptr 0 0), (3, .data (.str (sepX x.kind))), (4, .row 45 (textXs x.kind (x.kids.take i)).length), (32, .data (.list (x.kids.map eX))), (33, .data (i64 x.kids.length)), (34, .data (i64 i))])) (fun i => [(0, .box [.data (.int .i64 x.kind), .data (.str x.name), .data (.str x.exc), .data (.list (x.kids.map eX))]), (45, .row 9 1 ((textXs x.kind (x.kids.take i)).map .str))]) 46
      (fun i => i ≤ x.kids.length) (fun i => x.kids.length - i) 0 (Nat.zero_le _) (Weak.v (by (simp [ConvF, lookV, Conv, ints, textXs]; done)) (by (simp (disch := omega) only [TabSub, look, if_pos, if_neg, Obj.refsOK, refsOKs, AV.refsOK, decide_eq_true_eq, Bool.and_true, Bool.and_self, textXs] ) <;> ((repeat' apply And.intro) <;> first | exact True.intro | omega | (simp; done) | rfl))) ?_
    intro i hi
    have hln : (textXs x.kind (x.kids.take i)).length = i := by rw [textXs_map, List.length_map, List.length_take]; omega
    by_cases hi2 : i < x.kids.length
    · have e := g_textP_eq (h := h) (x := x.kids[i]) ⟨(kid_at hi2 ⟨hd.1, hbd⟩).1, (kid_at hi2 ⟨hd.1, hbd⟩).2, hd.2.2.kid hi2⟩
      have htn := text_len x.kids[i] (hd.2.2.kid hi2).2
      have htz := (hd.2.2.kid hi2).1
      have hnx := textXs_take hi2
      have hpar : pText x.kind x.kids[i] = if ((x.kids[i]).kind == x.kind) || (((x.kids[i]).kind == 3) && (x.kind == 2)) then [40] ++ textX x.kids[i] ++ [41] else textX x.kids[i] := rfl
      generalize hy : x.kids[i] = y at *
      generalize textXs x.kind (x.kids.take i) = ts at *
      generalize hts : textXs x.kind (x.kids.take (i + 1)) = ts' at *
      have htx : (textX y).length ≤ 104857600 := by omega
      generalize textX y = tx at *
      have hlen1 : ([40] ++ tx).length ≤ 104857701 := by rw [List.length_append]; simp; omega
      generalize hb1 : (y.kind == x.kind) = b1 at *
      generalize hb3 : (y.kind == 3) = b3 at *
      generalize hb2 : (x.kind == 2) = b2 at *
      cases hp : (b1 || (b3 && b2)) with
      | true =>
        rw [if_pos hp] at hpar
        rw [hpar] at hnx
        cases b1
        · cases b3
          · cases hp
          · cases b2
            · cases hp
            · repeat (first
              | (apply axJ; (focus ((with_reducible constructor) <;> rfl)))
              | (apply awT mixedOK hΓ (by kernel_rfl); (simp (disch := omega) only [go_sem, ↓reduceIte, dk, Int.reduceBEq, Int.reduceBNe, Bool.true_bne, Bool.false_bne, Bool.not_true, Bool.not_false, ↓lk, hy, hb1, hb2, hb3, e] <;> with_reducible rfl))
              | ((first | apply awR hΓ | apply awG | apply awH mixedOK hΓ rfl (by kernel_rfl) | apply ovE rfl); (simp (disch := omega) only [go_sem, ↓reduceIte, dk, Int.reduceBEq, Int.reduceBNe, Bool.true_bne, Bool.false_bne, Bool.not_true, Bool.not_false, ↓lk, hy, hb1, hb2, hb3, e] <;> with_reducible rfl); exact trivial)
              | rfl)
              exact ⟨i + 1, by omega, by omega, Weak.v (by (simp [ConvF, lookV, Conv, ints, hts, hnx, hln]; done)) (by (simp (disch := omega) only [TabSub, look, if_pos, if_neg, Obj.refsOK, refsOKs, AV.refsOK, decide_eq_true_eq, Bool.and_true, Bool.and_self, hts, hnx, hln] ) <;> ((repeat' apply And.intro) <;> first | exact True.intro | omega | (simp; done) | rfl))⟩
        · repeat (first
          | (apply axJ; (focus ((with_reducible constructor) <;> rfl)))
          | (apply awT mixedOK hΓ (by kernel_rfl); (simp (disch := omega) only [go_sem, ↓reduceIte, dk, Int.reduceBEq, Int.reduceBNe, Bool.true_bne, Bool.false_bne, Bool.not_true, Bool.not_false, ↓lk, hy, hb1, hb2, hb3, e] <;> with_reducible rfl))
          | ((first | apply awR hΓ | apply awG | apply awH mixedOK hΓ rfl (by kernel_rfl) | apply ovE rfl); (simp (disch := omega) only [go_sem, ↓reduceIte, dk, Int.reduceBEq, Int.reduceBNe, Bool.true_bne, Bool.false_bne, Bool.not_true, Bool.not_false, ↓lk, hy, hb1, hb2, hb3, e] <;> with_reducible rfl); exact trivial)
          | rfl)
          exact ⟨i + 1, by omega, by omega, Weak.v (by (simp [ConvF, lookV, Conv, ints, hts, hnx, hln]; done)) (by (simp (disch := omega) only [TabSub, look, if_pos, if_neg, Obj.refsOK, refsOKs, AV.refsOK, decide_eq_true_eq, Bool.and_true, Bool.and_self, hts, hnx, hln] ) <;> ((repeat' apply And.intro) <;> first | exact True.intro | omega | (simp; done) | rfl))⟩
      | false =>
        rw [if_neg (by rw [hp]; decide)] at hpar
        rw [hpar] at hnx
        cases b1
        · cases b3
          · repeat (first
            | (apply axJ; (focus ((with_reducible constructor) <;> rfl)))
            | (apply awT mixedOK hΓ (by kernel_rfl); (simp (disch := omega) only [go_sem, ↓reduceIte, dk, Int.reduceBEq, Int.reduceBNe, Bool.true_bne, Bool.false_bne, Bool.not_true, Bool.not_false, ↓lk, hy, hb1, hb2, hb3, e] <;> with_reducible rfl))
            | ((first | apply awR hΓ | apply awG | apply awH mixedOK hΓ rfl (by kernel_rfl) | apply ovE rfl); (simp (disch := omega) only [go_sem, ↓reduceIte, dk, Int.reduceBEq, Int.reduceBNe, Bool.true_bne, Bool.false_bne, Bool.not_true, Bool.not_false, ↓lk, hy, hb1, hb2, hb3, e] <;> with_reducible rfl); exact trivial)
            | rfl)
            exact ⟨i + 1, by omega, by omega, Weak.v (by (simp [ConvF, lookV, Conv, ints, hts, hnx, hln]; done)) (by (simp (disch := omega) only [TabSub, look, if_pos, if_neg, Obj.refsOK, refsOKs, AV.refsOK, decide_eq_true_eq, Bool.and_true, Bool.and_self, hts, hnx, hln] ) <;> ((repeat' apply And.intro) <;> first | exact True.intro | omega | (simp; done) | rfl))⟩
          · cases b2
            · repeat (first
              | (apply axJ; (focus ((with_reducible constructor) <;> rfl)))
              | (apply awT mixedOK hΓ (by kernel_rfl); (simp (disch := omega) only [go_sem, ↓reduceIte, dk, Int.reduceBEq, Int.reduceBNe, Bool.true_bne, Bool.false_bne, Bool.not_true, Bool.not_false, ↓lk, hy, hb1, hb2, hb3, e] <;> with_reducible rfl))
              | ((first | apply awR hΓ | apply awG | apply awH mixedOK hΓ rfl (by kernel_rfl) | apply ovE rfl); (simp (disch := omega) only [go_sem, ↓reduceIte, dk, Int.reduceBEq, Int.reduceBNe, Bool.true_bne, Bool.false_bne, Bool.not_true, Bool.not_false, ↓lk, hy, hb1, hb2, hb3, e] <;> with_reducible rfl); exact trivial)
              | rfl)
              exact ⟨i + 1, by omega, by omega, Weak.v (by (simp [ConvF, lookV, Conv, ints, hts, hnx, hln]; done)) (by (simp (disch := omega) only [TabSub, look, if_pos, if_neg, Obj.refsOK, refsOKs, AV.refsOK, decide_eq_true_eq, Bool.and_true, Bool.and_self, hts, hnx, hln] ) <;> ((repeat' apply And.intro) <;> first | exact True.intro | omega | (simp; done) | rfl))⟩
            · cases hp
        · cases hp
    · have hi' : i = x.kids.length := by omega
      subst hi'
      have htl := tails_len hd.2.2 x.kids.length
      rw [List.take_length] at htl hln ⊢
      have ej := g_join_eq (l := textXs x.kind x.kids) (s := sepX x.kind) ⟨by omega, by omega⟩
      refine awp_weak (Weak.freeze (o := 45) rfl) ?_
      repeat (first
        | (apply axJ; (focus ((with_reducible constructor) <;> rfl)))
        | (apply awT mixedOK hΓ (by kernel_rfl); (simp (disch := omega) only [go_sem, ↓reduceIte, dk, ↓lk, hln, ej] <;> with_reducible rfl))
        | ((first | apply awR hΓ | apply awG | apply awH mixedOK hΓ rfl (by kernel_rfl) | apply ovE rfl); (simp (disch := omega) only [go_sem, ↓reduceIte, dk, ↓lk, hln, ej] <;> with_reducible rfl); exact trivial)
        | rfl)
      try rfl
end Go.Ab
namespace Go.Ab
open Go Go.RowKit Go.Proofs
set_option maxRecDepth 10000
set_option maxHeartbeats 8000000
def fmtX (x : LX) : List UInt8 × Int := if checkE x != 0 then ([], checkE x) else (textX x, 0)
def eFmt (p : List UInt8 × Int) : D := .tup [.str p.1, i64 p.2]
theorem check_ok {x : LX} (h : checkE x = 0) : x.size ≤ 64 ∧ x.hgt ≤ 24 ∧ formE x = 0 := by
  unfold checkE at h
  split at h
  · cases h
  · rename_i h1
    split at h
    · cases h
    · rename_i h2
      simp only [decide_eq_true_eq] at h1 h2
      exact ⟨by omega, by omega, h⟩
noncomputable def g_fmtP : List D → Option D := encSpec (fun x : LX => [eX x]) (fun x : LX => x.Bd 1099511627776) (fun x : LX => eFmt (fmtX x))
theorem g_fmtP_eq {x : LX} (hd : x.Bd 1099511627776) : g_fmtP [.agg [.int .i64 x.kind, .str x.name, .str x.exc, .list (x.kids.map eX)]] = some (eFmt (fmtX x)) := by
  have e : g_fmtP [eX x] = some (eFmt (fmtX x)) := encSpec_eq (x := x) hd fun y hy => by
    simp only [List.cons.injEq, and_true, true_and, D.str.injEq, D.int.injEq, D.list.injEq, D.bool.injEq, D.agg.injEq, D.clo.injEq, Int.natCast_inj, inj_ie] at hy
    rw [hy]
  exact (congrArg (g_fmtP) (by rw [← eX_eq x])).trans e
theorem f_fmtP_ok : PureOK Tryd.prog 14 false g_fmtP := by
  have hΓ := Γp f_checkP_ok (Γp (f_textP_ok 24) (Γn))
  refine pure_enc (n := 12) (rs := [.tmp 2, .tmp 3]) Tryd.func14 (by kernel_rfl) rfl (by kernel_rfl) (by kernel_rfl) ?_
  rintro x hd
  (try dsimp only at hd ⊢)
  refine ⟨fun h => (by cases h), fun k hz0 => ?_⟩
  have e1 := g_checkP_eq hd
  unfold fmtX
  rw [start_frame (by simp)]; simp only [enumV, go_sem, emptyH]
  by_cases hc : checkE x = 0
  · obtain ⟨h1, h2, h3⟩ := check_ok hc
    have e2 := g_textP_eq (h := 24) (x := x) ⟨h2, hd, by omega, h3⟩
    have hcb : (checkE x != 0) = false := by rw [hc]; rfl
    rw [hcb]
    generalize checkE x = ce at *
    repeat (first
      | (apply axJ; (focus ((with_reducible constructor) <;> rfl)))
      | (apply awT mixedOK hΓ (by kernel_rfl); (simp (disch := omega) only [go_sem, ↓reduceIte, dk, hcb, e1, e2] <;> with_reducible rfl))
      | ((first | apply awR hΓ | apply awG | apply awH mixedOK hΓ rfl (by kernel_rfl) | apply ovE rfl); (simp (disch := omega) only [go_sem, ↓reduceIte, dk, hcb, e1, e2] <;> with_reducible rfl); exact trivial)
      | rfl)
    try rfl
  · have hcb : (checkE x != 0) = true := by simpa [bne] using hc
    rw [hcb]
    generalize checkE x = ce at *
    repeat (first
      | (apply axJ; (focus ((with_reducible constructor) <;> rfl)))
      | (apply awT mixedOK hΓ (by kernel_rfl); (simp (disch := omega) only [go_sem, ↓reduceIte, dk, hcb, e1] <;> with_reducible rfl))
      | ((first | apply awR hΓ | apply awG | apply awH mixedOK hΓ rfl (by kernel_rfl) | apply ovE rfl); (simp (disch := omega) only [go_sem, ↓reduceIte, dk, hcb, e1] <;> with_reducible rfl); exact trivial)
      | rfl)
    try rfl
noncomputable def g_fmtR : List D → Option D := encSpec (fun x : LX => [eX x]) (fun x : LX => x.Bd 1099511627776) (fun x : LX => eFmt (fmtX x))
theorem g_fmtR_eq {x : LX} (hd : x.Bd 1099511627776) : g_fmtR [.agg [.int .i64 x.kind, .str x.name, .str x.exc, .list (x.kids.map eX)]] = some (eFmt (fmtX x)) := by
  have e : g_fmtR [eX x] = some (eFmt (fmtX x)) := encSpec_eq (x := x) hd fun y hy => by
    simp only [List.cons.injEq, and_true, true_and, D.str.injEq, D.int.injEq, D.list.injEq, D.bool.injEq, D.agg.injEq, D.clo.injEq, Int.natCast_inj, inj_ie] at hy
    rw [hy]
  exact (congrArg (g_fmtR) (by rw [← eX_eq x])).trans e
theorem f_fmtR_ok : PureOK Tryd.prog 15 false g_fmtR := by
  have hΓ := Γp f_checkR_ok (Γp (f_textR_ok 24) (Γn))
  refine pure_enc (n := 12) (rs := [.tmp 2, .tmp 3]) Tryd.func15 (by kernel_rfl) rfl (by kernel_rfl) (by kernel_rfl) ?_
  rintro x hd
  (try dsimp only at hd ⊢)
  refine ⟨fun h => (by cases h), fun k hz0 => ?_⟩
  have e1 := g_checkR_eq hd
  unfold fmtX
  rw [start_frame (by simp)]; simp only [enumV, go_sem, emptyH]
  by_cases hc : checkE x = 0
  · obtain ⟨h1, h2, h3⟩ := check_ok hc
    have e2 := g_textR_eq (h := 24) (x := x) ⟨h2, hd, by omega, h3⟩
    have hcb : (checkE x != 0) = false := by rw [hc]; rfl
    rw [hcb]
    generalize checkE x = ce at *
    repeat (first
      | (apply axJ; (focus ((with_reducible constructor) <;> rfl)))
      | (apply awT mixedOK hΓ (by kernel_rfl); (simp (disch := omega) only [go_sem, ↓reduceIte, dk, hcb, e1, e2] <;> with_reducible rfl))
      | ((first | apply awR hΓ | apply awG | apply awH mixedOK hΓ rfl (by kernel_rfl) | apply ovE rfl); (simp (disch := omega) only [go_sem, ↓reduceIte, dk, hcb, e1, e2] <;> with_reducible rfl); exact trivial)
      | rfl)
    try rfl
  · have hcb : (checkE x != 0) = true := by simpa [bne] using hc
    rw [hcb]
    generalize checkE x = ce at *
    repeat (first
      | (apply axJ; (focus ((with_reducible constructor) <;> rfl)))
      | (apply awT mixedOK hΓ (by kernel_rfl); (simp (disch := omega) only [go_sem, ↓reduceIte, dk, hcb, e1] <;> with_reducible rfl))
      | ((first | apply awR hΓ | apply awG | apply awH mixedOK hΓ rfl (by kernel_rfl) | apply ovE rfl); (simp (disch := omega) only [go_sem, ↓reduceIte, dk, hcb, e1] <;> with_reducible rfl); exact trivial)
      | rfl)
    try rfl
end Go.Ab
namespace Go.Ab
open Go Go.RowKit Go.Proofs
set_option maxRecDepth 100000
set_option maxHeartbeats 8000000
abbrev aw1 : List UInt8 := [97, 108, 100, 101, 114, 32, 97, 110, 100, 32, 40, 98, 105, 114, 99, 104, 43, 32, 111, 114, 32, 99, 101, 100, 97, 114, 32, 119, 105, 116, 104, 32, 108, 105, 98, 114, 97, 114, 121, 41]
abbrev aw2 : List UInt8 := [97, 108, 100, 101, 114, 32, 111, 114]
abbrev aw3 : List UInt8 := [97, 108, 100, 101, 114, 32, 97, 110, 100, 32, 111, 114]
def awX : LX := .mk 2 [] [] [.mk 0 [97, 108, 100, 101, 114] [] [], .mk 3 [] [] [.mk 1 [98, 105, 114, 99, 104] [] [], .mk 0 [99, 101, 100, 97, 114] [108, 105, 98, 114, 97, 114, 121] []]]
theorem aw_p1 : pParse aw1 = (awX, 0, 0) := by kernel_rfl
theorem aw_p2 : pParse aw2 = (x0, 8, 4) := by kernel_rfl
theorem aw_p3 : pParse aw3 = (x0, 10, 2) := by kernel_rfl
theorem aw_f : fmtX awX = (aw1, 0) := by kernel_rfl
theorem aw_s : awX.size = 5 := by kernel_rfl
theorem aw_h : awX.hgt = 3 := by kernel_rfl
theorem aw_e : eqX awX awX = true := by kernel_rfl
theorem aw_e0 : eqX awX x0 = false := by kernel_rfl
theorem aw_c : checkE x0 = 2 := by kernel_rfl
theorem awX_bd : awX.Bd 1099511627776 := by
  have h : ∀ n : List UInt8, n.length ≤ 1000 → n.length ≤ 1099511627776 := fun n h => by omega
  have l1 : ∀ (k : Int) (n e : List UInt8), n.length ≤ 1000 → e.length ≤ 1000 → (LX.mk k n e []).Bd 1099511627776 := fun k n e h1 h2 => .mk _ (h n h1) (h e h2) (by show (LX.mk k n e []).size ≤ _; simp [LX.size, LX.size.sizes]) (fun y hy => by cases hy)
  unfold awX
  refine .mk _ (by decide) (by decide) (by simp [LX.size, LX.size.sizes]) (fun y hy => ?_)
  have hy2 : y ∈ [_, _] := hy
  rcases List.mem_cons.1 hy2 with rfl | hy2
  · exact l1 _ _ _ (by decide) (by decide)
  · rw [List.mem_singleton.1 hy2]
    refine .mk _ (by decide) (by decide) (by simp [LX.size, LX.size.sizes]) (fun z hz => ?_)
    have hz2 : z ∈ [_, _] := hz
    rcases List.mem_cons.1 hz2 with rfl | hz2
    · exact l1 _ _ _ (by decide) (by decide)
    · rw [List.mem_singleton.1 hz2]
      exact l1 _ _ _ (by decide) (by decide)
theorem x0_bd : x0.Bd 1099511627776 := .mk _ (by decide) (by decide) (by decide) (fun y hy => by cases hy)
noncomputable def g_awake : List D → Option D := encSpec (fun _ : Unit => []) (fun _ => True) (fun _ => .bool true)
theorem g_awake_eq : g_awake [] = some (.bool true) := encSpec_eq (x := ()) trivial fun _ _ => rfl
theorem f_awake_ok : PureOK Tryd.prog 9 true g_awake := by
  have hΓ := (Γp f_parseP_ok (Γp f_fmtP_ok (Γp f_sizeP_ok (Γp (f_depthP_ok 1099511627776) (Γp (f_equalP_ok 1099511627776) (Γp f_checkP_ok (Γn)))))))
  refine pure_enc (n := 88) (rs := [.tmp 0]) Tryd.func9 (by kernel_rfl) rfl (by kernel_rfl) (by kernel_rfl) ?_
  rintro _ _
  refine ⟨fun _ => .bool _, fun k hz0 => ?_⟩
  have hh : awX.hgt ≤ 1099511627776 := by rw [aw_h]; decide
  have p1 := g_parseP_eq (s := aw1) (by decide)
  have p2 := g_parseP_eq (s := aw2) (by decide)
  have p3 := g_parseP_eq (s := aw3) (by decide)
  rw [aw_p1] at p1
  rw [aw_p2] at p2
  rw [aw_p3] at p3
  have f1 := g_fmtP_eq awX_bd
  rw [aw_f] at f1
  have s1 := g_sizeP_eq awX_bd
  rw [aw_s] at s1
  have d1 := g_depthP_eq (h := 1099511627776) ⟨hh, awX_bd⟩
  rw [aw_h] at d1
  have q1 := g_equalP_eq (h := 1099511627776) ⟨hh, awX_bd, awX_bd⟩
  rw [aw_e] at q1
  have q2 := g_equalP_eq (h := 1099511627776) ⟨hh, awX_bd, x0_bd⟩
  rw [aw_e0] at q2
  have c1 := g_checkP_eq x0_bd
  rw [aw_c] at c1
  simp only [ePr, eFmt, eX_eq, show x0.kind = 0 from rfl, show x0.name = [] from rfl, show x0.exc = [] from rfl, show x0.kids = [] from rfl, List.map_nil, show ((5 : Nat) : Int) = 5 from rfl, show ((3 : Nat) : Int) = 3 from rfl] at p1 p2 p3 f1 s1 d1 q1 q2 c1
  generalize awX.kind = kk at *
  generalize awX.name = nn at *
  generalize awX.exc = xx at *
  generalize awX.kids = dd at *
  rw [start_frame (by simp)]; simp only [enumV, go_sem, emptyH]
  repeat (first
    | (apply axJ; (focus ((with_reducible constructor) <;> rfl)))
    | (apply awT mixedOK hΓ (by kernel_rfl); (simp (disch := omega) only [go_sem, ↓reduceIte, dk, ↓lk, Int.reduceBEq, Int.reduceBNe, Bool.true_bne, Bool.false_bne, Bool.not_true, Bool.not_false, beq_self_eq_true, ↓ty_build25, p1, p2, p3, f1, s1, d1, q1, q2, c1] <;> with_reducible rfl))
    | ((first | apply awR hΓ | apply awG | apply awH mixedOK hΓ rfl (by kernel_rfl) | apply ovE rfl); (simp (disch := omega) only [go_sem, ↓reduceIte, dk, ↓lk, Int.reduceBEq, Int.reduceBNe, Bool.true_bne, Bool.false_bne, Bool.not_true, Bool.not_false, beq_self_eq_true, ↓ty_build25, p1, p2, p3, f1, s1, d1, q1, q2, c1] <;> with_reducible rfl); exact trivial)
    | rfl)
  try rfl
end Go.Ab
