/-
  One text of the proof (own work): contracts of functions of the program, by the abstract machine.
-/
import Derived.Test.YtabenhkajabaeaaDoorX23
import Derived.Test.YtabenhkajabaeaaDoorX42
import Derived.Test.YtabenhkajabaeaaDoorX27
set_option linter.unusedVariables false
set_option linter.unusedSimpArgs false
namespace Go.Ab
open Go Go.RowKit Go.Proofs
set_option maxRecDepth 10000
set_option maxHeartbeats 8000000
noncomputable def g_textR (h : Nat) : List D → Option D := encSpec (fun x : LX => [eX x]) (fun x : LX => x.hgt ≤ h ∧ x.Bd 1099511627776 ∧ TxOK x) (fun x : LX => .str (textX x))
theorem g_textR_eq {h : Nat} {x : LX} (hd : x.hgt ≤ h ∧ x.Bd 1099511627776 ∧ TxOK x) : g_textR h [.agg [.int .i64 x.kind, .str x.name, .str x.exc, .list (x.kids.map eX)]] = some (.str (textX x)) := by
  have e : g_textR h [eX x] = some (.str (textX x)) := encSpec_eq (x := x) hd fun y hy => by
    simp only [List.cons.injEq, and_true, true_and, D.str.injEq, D.int.injEq, D.list.injEq, D.bool.injEq, D.agg.injEq, D.clo.injEq, Int.natCast_inj, inj_ie] at hy
    rw [hy]
  exact (congrArg (g_textR h) (by rw [← eX_eq x])).trans e
theorem f_textR_ok : ∀ h : Nat, PureOK Tryd.prog 37 true (g_textR h)
 | 0 => pure_void (by
    rintro x ⟨hx, _⟩
    (try dsimp only at hx)
    have := x.hgt_pos
    omega)
 | h + 1 => by
  have ih := f_textR_ok h
  have hΓ := Γp ih (Γn)
  refine pure_enc (n := 73) (rs := [.tmp 2]) Tryd.func37 (by kernel_rfl) rfl (by kernel_rfl) (by kernel_rfl) ?_
  rintro x hd
  (try dsimp only at hd ⊢)
  refine ⟨fun _ => by (repeat (first | exact .int _ _ | exact .bool _ | exact .str _ | (refine .tup _ (fun d hd => ?_); simp only [List.mem_cons, List.not_mem_nil, or_false] at hd; rcases hd with rfl | hd))), fun k hz0 => ?_⟩
  have hbd := hd.2.1
  have hn := hbd.n
  have hee := hbd.e
  have hz := hbd.z
  have hl := x.len_le
  have hkc := node_cases (formE_node hd.2.2.2)
  rw [textX_eq]
  rw [start_frame (by simp)]; simp only [enumV, go_sem, emptyH]
  rcases hkc with ⟨hk, h1, h2, h3⟩ | ⟨hk, h1, h2, h3⟩
  · have hl := isNameB_len h2
    rcases hk with hk | hk
    · rw [hk]
      have he : x.exc.length ≤ 32 := by
        rcases h3 with h3 | h3
        · rw [h3]; exact Nat.zero_le _
        · exact isNameB_len h3.2
      have hl2 : (x.name ++ [32, 119, 105, 116, 104, 32]).length ≤ 64 := by simp only [List.length_append, List.length_cons, List.length_nil]; omega
      generalize hc : (x.exc == []) = c
      cases c
      · repeat (first
        | (apply axJ; (focus ((with_reducible constructor) <;> rfl)))
        | (apply awT mixedOK hΓ (by kernel_rfl); (simp (disch := omega) only [go_sem, ↓reduceIte, dk, Int.reduceBEq, Int.reduceBNe, Bool.true_bne, Bool.false_bne, Bool.not_true, Bool.not_false, hk, hc] <;> with_reducible rfl))
        | ((first | apply awR hΓ | apply awG | apply awH mixedOK hΓ rfl (by kernel_rfl) | apply ovE rfl); (simp (disch := omega) only [go_sem, ↓reduceIte, dk, Int.reduceBEq, Int.reduceBNe, Bool.true_bne, Bool.false_bne, Bool.not_true, Bool.not_false, hk, hc] <;> with_reducible rfl); exact trivial)
        | rfl)
        try rfl
      · repeat (first
        | (apply axJ; (focus ((with_reducible constructor) <;> rfl)))
        | (apply awT mixedOK hΓ (by kernel_rfl); (simp (disch := omega) only [go_sem, ↓reduceIte, dk, Int.reduceBEq, Int.reduceBNe, Bool.true_bne, Bool.false_bne, Bool.not_true, Bool.not_false, hk, hc] <;> with_reducible rfl))
        | ((first | apply awR hΓ | apply awG | apply awH mixedOK hΓ rfl (by kernel_rfl) | apply ovE rfl); (simp (disch := omega) only [go_sem, ↓reduceIte, dk, Int.reduceBEq, Int.reduceBNe, Bool.true_bne, Bool.false_bne, Bool.not_true, Bool.not_false, hk, hc] <;> with_reducible rfl); exact trivial)
        | rfl)
        try rfl
    · rw [hk]
      repeat (first
        | (apply axJ; (focus ((with_reducible constructor) <;> rfl)))
        | (apply awT mixedOK hΓ (by kernel_rfl); (simp (disch := omega) only [go_sem, ↓reduceIte, dk, Int.reduceBEq, Int.reduceBNe, Bool.true_bne, Bool.false_bne, Bool.not_true, Bool.not_false, hk] <;> with_reducible rfl))
        | ((first | apply awR hΓ | apply awG | apply awH mixedOK hΓ rfl (by kernel_rfl) | apply ovE rfl); (simp (disch := omega) only [go_sem, ↓reduceIte, dk, Int.reduceBEq, Int.reduceBNe, Bool.true_bne, Bool.false_bne, Bool.not_true, Bool.not_false, hk] <;> with_reducible rfl); exact trivial)
        | rfl)
      try rfl
  · obtain ⟨hk0, hk1, hk23⟩ : (x.kind == 0) = false ∧ (x.kind == 1) = false ∧ sepX x.kind = (if x.kind == 2 then [32, 97, 110, 100, 32] else [32, 111, 114, 32]) := by
      rcases hk with hk | hk <;> (rw [hk]; exact ⟨rfl, rfl, rfl⟩)
    rw [hk0, hk1]
    generalize hc2 : (x.kind == 2) = c2 at *
    repeat (first
      | (apply axJ; (focus ((with_reducible constructor) <;> rfl)))
      | (apply awT mixedOK hΓ (by kernel_rfl); (simp (disch := omega) only [go_sem, ↓reduceIte, dk, Int.reduceBEq, Int.reduceBNe, Bool.true_bne, Bool.false_bne, Bool.not_true, Bool.not_false, hk0, hk1, hc2] <;> with_reducible rfl))
      | ((first | apply awR hΓ | apply awG | apply awH mixedOK hΓ rfl (by kernel_rfl) | apply ovE rfl); (simp (disch := omega) only [go_sem, ↓reduceIte, dk, Int.reduceBEq, Int.reduceBNe, Bool.true_bne, Bool.false_bne, Bool.not_true, Bool.not_false, hk0, hk1, hc2] <;> with_reducible rfl); exact trivial)
      | rfl)
    refine awp_mid (fun _ : Unit => (frame 73 [(1, .ptr 0 0), (3, .data (.str (sepX x.kind)))])) (fun _ => [(0, .box [.data (.int .i64 x.kind), .data (.str x.name), .data (.str x.exc), .data (.list (x.kids.map eX))])]) 40 (fun _ => True) ?_ ?_
    · cases c2
      · rw [if_neg (by decide)] at hk23
        repeat (first
          | (apply axJ; (focus ((with_reducible constructor) <;> rfl)))
          | (apply awT mixedOK hΓ (by kernel_rfl); (simp (disch := omega) only [go_sem, ↓reduceIte, dk, Int.reduceBEq, Int.reduceBNe, Bool.true_bne, Bool.false_bne, Bool.not_true, Bool.not_false] <;> with_reducible rfl))
          | ((first | apply awR hΓ | apply awG | apply awH mixedOK hΓ rfl (by kernel_rfl) | apply ovE rfl); (simp (disch := omega) only [go_sem, ↓reduceIte, dk, Int.reduceBEq, Int.reduceBNe, Bool.true_bne, Bool.false_bne, Bool.not_true, Bool.not_false] <;> with_reducible rfl); exact trivial)
          | rfl)
        exact ⟨(), trivial, Weak.v (by (simp [ConvF, lookV, Conv, ints, hk23]; done)) (by (simp (disch := omega) only [TabSub, look, if_pos, if_neg, Obj.refsOK, refsOKs, AV.refsOK, decide_eq_true_eq, Bool.and_true, Bool.and_self, hk23] ) <;> ((repeat' apply And.intro) <;> first | exact True.intro | omega | (simp; done) | rfl))⟩
      · rw [if_pos rfl] at hk23
        repeat (first
          | (apply axJ; (focus ((with_reducible constructor) <;> rfl)))
          | (apply awT mixedOK hΓ (by kernel_rfl); (simp (disch := omega) only [go_sem, ↓reduceIte, dk, Int.reduceBEq, Int.reduceBNe, Bool.true_bne, Bool.false_bne, Bool.not_true, Bool.not_false] <;> with_reducible rfl))
          | ((first | apply awR hΓ | apply awG | apply awH mixedOK hΓ rfl (by kernel_rfl) | apply ovE rfl); (simp (disch := omega) only [go_sem, ↓reduceIte, dk, Int.reduceBEq, Int.reduceBNe, Bool.true_bne, Bool.false_bne, Bool.not_true, Bool.not_false] <;> with_reducible rfl); exact trivial)
          | rfl)
        exact ⟨(), trivial, Weak.v (by (simp [ConvF, lookV, Conv, ints, hk23]; done)) (by (simp (disch := omega) only [TabSub, look, if_pos, if_neg, Obj.refsOK, refsOKs, AV.refsOK, decide_eq_true_eq, Bool.and_true, Bool.and_self, hk23] ) <;> ((repeat' apply And.intro) <;> first | exact True.intro | omega | (simp; done) | rfl))⟩
    intro _ _
    repeat (first
      | (apply axJ; (focus ((with_reducible constructor) <;> rfl)))
      | (apply awT mixedOK hΓ (by kernel_rfl); (simp (disch := omega) only [go_sem, ↓reduceIte, dk, Int.reduceBEq, Int.reduceBNe, Bool.true_bne, Bool.false_bne, Bool.not_true, Bool.not_false] <;> with_reducible rfl))
      | ((first | apply awR hΓ | apply awG | apply awH mixedOK hΓ rfl (by kernel_rfl) | apply ovE rfl); (simp (disch := omega) only [go_sem, ↓reduceIte, dk, Int.reduceBEq, Int.reduceBNe, Bool.true_bne, Bool.false_bne, Bool.not_true, Bool.not_false] <;> with_reducible rfl); exact trivial)
      | rfl)
    have hsl : (sepX x.kind).length ≤ 5 := by unfold sepX; split <;> simp
    refine awp_loop_at (X := Nat) (fun i => (frame 73 [(1, .ptr 0 0), (3, .data (.str (sepX x.kind))), (4, .data (.str (Lib.join (textXs x.kind (x.kids.take i)) (sepX x.kind)))), (5, .data (i64 i))])) (fun _ => [(0, .box [.data (.int .i64 x.kind), .data (.str x.name), .data (.str x.exc), .data (.list (x.kids.map eX))])]) 46
      (fun i => i ≤ x.kids.length) (fun i => x.kids.length - i) 0 (Nat.zero_le _) (Weak.v (by (simp [ConvF, lookV, Conv, ints, textXs, Lib.join_nil]; done)) (by (simp (disch := omega) only [TabSub, look, if_pos, if_neg, Obj.refsOK, refsOKs, AV.refsOK, decide_eq_true_eq, Bool.and_true, Bool.and_self, textXs, Lib.join_nil] ) <;> ((repeat' apply And.intro) <;> first | exact True.intro | omega | (simp; done) | rfl))) ?_
    intro i hi
    have hti := tails_len hd.2.2 i
    by_cases hi2 : i < x.kids.length
    · have e := g_textR_eq (h := h) (x := x.kids[i]) ⟨(kid_at hi2 ⟨hd.1, hbd⟩).1, (kid_at hi2 ⟨hd.1, hbd⟩).2, hd.2.2.kid hi2⟩
      have htn := text_len x.kids[i] (hd.2.2.kid hi2).2
      have htz := (hd.2.2.kid hi2).1
      have hnx := textXs_take hi2
      have hns : ∀ j, i = j + 1 → textXs x.kind (x.kids.take i) ≠ [] := fun j hj h0 => by
        rw [textXs_map, List.map_eq_nil_iff] at h0
        have := congrArg List.length h0
        rw [List.length_take, List.length_nil] at this
        omega
      have hpar : pText x.kind x.kids[i] = if ((x.kids[i]).kind == x.kind) || ((x.kind == 2) && ((x.kids[i]).kind == 3)) then [40] ++ textX x.kids[i] ++ [41] else textX x.kids[i] := by
        unfold pText par
        rw [Bool.and_comm]
      generalize hy : x.kids[i] = y at *
      have hj0 : i = 0 → Lib.join (textXs x.kind (x.kids.take (i + 1))) (sepX x.kind) = pText x.kind y := fun h0 => by
        rw [hnx, h0]
        exact Lib.join_one _ _
      have hj1 : ∀ j, i = j + 1 → Lib.join (textXs x.kind (x.kids.take (i + 1))) (sepX x.kind) = Lib.join (textXs x.kind (x.kids.take i)) (sepX x.kind) ++ sepX x.kind ++ pText x.kind y := fun j hj => by
        rw [hnx, join_snoc (hns j hj)]
      have hjz : i = 0 → Lib.join (textXs x.kind (x.kids.take i)) (sepX x.kind) = [] := fun h0 => by rw [h0]; rfl
      generalize ha' : Lib.join (textXs x.kind (x.kids.take (i + 1))) (sepX x.kind) = a' at *
      generalize Lib.join (textXs x.kind (x.kids.take i)) (sepX x.kind) = a at *
      generalize hse : sepX x.kind = se at *
      obtain ⟨A, hA, hA1, hA2⟩ : ∃ A : List UInt8, A.length ≤ 104857700 ∧ A = (if decide ((i : Int) > 0) then a ++ se else a) ∧ a' = A ++ pText x.kind y := by
        by_cases h0 : i = 0
        · refine ⟨a, by omega, by rw [if_neg (by simp [h0])], ?_⟩
          rw [hj0 h0, hjz h0]; rfl
        · refine ⟨a ++ se, by rw [List.length_append]; omega, by rw [if_pos (by simp; omega)], ?_⟩
          exact hj1 (i - 1) (by omega)
      have hlen1 : (A ++ [40]).length ≤ 104857701 := by rw [List.length_append]; simp; omega
      have hlen2 : (A ++ [40] ++ textX y).length ≤ 309715200 := by simp only [List.length_append, List.length_cons, List.length_nil]; omega
      have htx : (textX y).length ≤ 104857600 := by omega
      generalize textX y = tx at *
      generalize hg : decide ((i : Int) > 0) = g at *
      repeat (first
        | (apply axJ; (focus ((with_reducible constructor) <;> rfl)))
        | (apply awT mixedOK hΓ (by kernel_rfl); (simp (disch := omega) only [go_sem, ↓reduceIte, dk, Int.reduceBEq, Int.reduceBNe, Bool.true_bne, Bool.false_bne, Bool.not_true, Bool.not_false, hg] <;> with_reducible rfl))
        | ((first | apply awR hΓ | apply awG | apply awH mixedOK hΓ rfl (by kernel_rfl) | apply ovE rfl); (simp (disch := omega) only [go_sem, ↓reduceIte, dk, Int.reduceBEq, Int.reduceBNe, Bool.true_bne, Bool.false_bne, Bool.not_true, Bool.not_false, hg] <;> with_reducible rfl); exact trivial)
        | rfl)
      refine awp_mid (fun _ : Unit => (frame 73 [(1, .ptr 0 0), (3, .data (.str se)), (4, .data (.str A)), (5, .data (i64 i))])) (fun _ => [(0, .box [.data (.int .i64 x.kind), .data (.str x.name), .data (.str x.exc), .data (.list (x.kids.map eX))])]) 60 (fun _ => True) ?_ ?_
      · cases g
        · rw [if_neg (by decide)] at hA1
          subst hA1
          repeat (first
            | (apply axJ; (focus ((with_reducible constructor) <;> rfl)))
            | (apply awT mixedOK hΓ (by kernel_rfl); (simp (disch := omega) only [go_sem, ↓reduceIte, dk, Int.reduceBEq, Int.reduceBNe, Bool.true_bne, Bool.false_bne, Bool.not_true, Bool.not_false] <;> with_reducible rfl))
            | ((first | apply awR hΓ | apply awG | apply awH mixedOK hΓ rfl (by kernel_rfl) | apply ovE rfl); (simp (disch := omega) only [go_sem, ↓reduceIte, dk, Int.reduceBEq, Int.reduceBNe, Bool.true_bne, Bool.false_bne, Bool.not_true, Bool.not_false] <;> with_reducible rfl); exact trivial)
            | rfl)
          exact ⟨(), trivial, Weak.w⟩
        · rw [if_pos rfl] at hA1
          subst hA1
          repeat (first
            | (apply axJ; (focus ((with_reducible constructor) <;> rfl)))
            | (apply awT mixedOK hΓ (by kernel_rfl); (simp (disch := omega) only [go_sem, ↓reduceIte, dk, Int.reduceBEq, Int.reduceBNe, Bool.true_bne, Bool.false_bne, Bool.not_true, Bool.not_false] <;> with_reducible rfl))
            | ((first | apply awR hΓ | apply awG | apply awH mixedOK hΓ rfl (by kernel_rfl) | apply ovE rfl); (simp (disch := omega) only [go_sem, ↓reduceIte, dk, Int.reduceBEq, Int.reduceBNe, Bool.true_bne, Bool.false_bne, Bool.not_true, Bool.not_false] <;> with_reducible rfl); exact trivial)
            | rfl)
          exact ⟨(), trivial, Weak.w⟩
      intro _ _
      generalize hb1 : (y.kind == x.kind) = b1 at *
      generalize hb3 : (y.kind == 3) = b3 at *
      generalize hb2 : (x.kind == 2) = b2 at *
      cases hp : (b1 || (b2 && b3)) with
      | true =>
        rw [if_pos hp] at hpar
        have hf : A ++ 40 :: (tx ++ [41]) = a' := by rw [hA2, hpar]; simp
        cases b1
        · cases b2
          · cases hp
          · cases b3
            · cases hp
            · repeat (first
              | (apply axJ; (focus ((with_reducible constructor) <;> rfl)))
              | (apply awT mixedOK hΓ (by kernel_rfl); (simp (disch := omega) only [go_sem, ↓reduceIte, dk, Int.reduceBEq, Int.reduceBNe, Bool.true_bne, Bool.false_bne, Bool.not_true, Bool.not_false, hy, hb1, hb2, hb3, e] <;> with_reducible rfl))
              | ((first | apply awR hΓ | apply awG | apply awH mixedOK hΓ rfl (by kernel_rfl) | apply ovE rfl); (simp (disch := omega) only [go_sem, ↓reduceIte, dk, Int.reduceBEq, Int.reduceBNe, Bool.true_bne, Bool.false_bne, Bool.not_true, Bool.not_false, hy, hb1, hb2, hb3, e] <;> with_reducible rfl); exact trivial)
              | rfl)
              exact ⟨i + 1, by omega, by omega, Weak.v (by (simp [ConvF, lookV, Conv, ints, hf, ha']; done)) (by (simp (disch := omega) only [TabSub, look, if_pos, if_neg, Obj.refsOK, refsOKs, AV.refsOK, decide_eq_true_eq, Bool.and_true, Bool.and_self, hf, ha'] ) <;> ((repeat' apply And.intro) <;> first | exact True.intro | omega | (simp; done) | rfl))⟩
        · repeat (first
          | (apply axJ; (focus ((with_reducible constructor) <;> rfl)))
          | (apply awT mixedOK hΓ (by kernel_rfl); (simp (disch := omega) only [go_sem, ↓reduceIte, dk, Int.reduceBEq, Int.reduceBNe, Bool.true_bne, Bool.false_bne, Bool.not_true, Bool.not_false, hy, hb1, hb2, hb3, e] <;> with_reducible rfl))
          | ((first | apply awR hΓ | apply awG | apply awH mixedOK hΓ rfl (by kernel_rfl) | apply ovE rfl); (simp (disch := omega) only [go_sem, ↓reduceIte, dk, Int.reduceBEq, Int.reduceBNe, Bool.true_bne, Bool.false_bne, Bool.not_true, Bool.not_false, hy, hb1, hb2, hb3, e] <;> with_reducible rfl); exact trivial)
          | rfl)
          exact ⟨i + 1, by omega, by omega, Weak.v (by (simp [ConvF, lookV, Conv, ints, hf, ha']; done)) (by (simp (disch := omega) only [TabSub, look, if_pos, if_neg, Obj.refsOK, refsOKs, AV.refsOK, decide_eq_true_eq, Bool.and_true, Bool.and_self, hf, ha'] ) <;> ((repeat' apply And.intro) <;> first | exact True.intro | omega | (simp; done) | rfl))⟩
      | false =>
        rw [if_neg (by rw [hp]; decide)] at hpar
        have hf : A ++ tx = a' := by rw [hA2, hpar]
        cases b1
        · cases b2
          · repeat (first
            | (apply axJ; (focus ((with_reducible constructor) <;> rfl)))
            | (apply awT mixedOK hΓ (by kernel_rfl); (simp (disch := omega) only [go_sem, ↓reduceIte, dk, Int.reduceBEq, Int.reduceBNe, Bool.true_bne, Bool.false_bne, Bool.not_true, Bool.not_false, hy, hb1, hb2, hb3, e] <;> with_reducible rfl))
            | ((first | apply awR hΓ | apply awG | apply awH mixedOK hΓ rfl (by kernel_rfl) | apply ovE rfl); (simp (disch := omega) only [go_sem, ↓reduceIte, dk, Int.reduceBEq, Int.reduceBNe, Bool.true_bne, Bool.false_bne, Bool.not_true, Bool.not_false, hy, hb1, hb2, hb3, e] <;> with_reducible rfl); exact trivial)
            | rfl)
            exact ⟨i + 1, by omega, by omega, Weak.v (by (simp [ConvF, lookV, Conv, ints, hf, ha']; done)) (by (simp (disch := omega) only [TabSub, look, if_pos, if_neg, Obj.refsOK, refsOKs, AV.refsOK, decide_eq_true_eq, Bool.and_true, Bool.and_self, hf, ha'] ) <;> ((repeat' apply And.intro) <;> first | exact True.intro | omega | (simp; done) | rfl))⟩
          · cases b3
            · repeat (first
              | (apply axJ; (focus ((with_reducible constructor) <;> rfl)))
              | (apply awT mixedOK hΓ (by kernel_rfl); (simp (disch := omega) only [go_sem, ↓reduceIte, dk, Int.reduceBEq, Int.reduceBNe, Bool.true_bne, Bool.false_bne, Bool.not_true, Bool.not_false, hy, hb1, hb2, hb3, e] <;> with_reducible rfl))
              | ((first | apply awR hΓ | apply awG | apply awH mixedOK hΓ rfl (by kernel_rfl) | apply ovE rfl); (simp (disch := omega) only [go_sem, ↓reduceIte, dk, Int.reduceBEq, Int.reduceBNe, Bool.true_bne, Bool.false_bne, Bool.not_true, Bool.not_false, hy, hb1, hb2, hb3, e] <;> with_reducible rfl); exact trivial)
              | rfl)
              exact ⟨i + 1, by omega, by omega, Weak.v (by (simp [ConvF, lookV, Conv, ints, hf, ha']; done)) (by (simp (disch := omega) only [TabSub, look, if_pos, if_neg, Obj.refsOK, refsOKs, AV.refsOK, decide_eq_true_eq, Bool.and_true, Bool.and_self, hf, ha'] ) <;> ((repeat' apply And.intro) <;> first | exact True.intro | omega | (simp; done) | rfl))⟩
            · cases hp
        · cases hp
    · have hi' : i = x.kids.length := by omega
      subst hi'
      rw [List.take_length]
      repeat (first
        | (apply axJ; (focus ((with_reducible constructor) <;> rfl)))
        | (apply awT mixedOK hΓ (by kernel_rfl); (simp (disch := omega) only [go_sem, ↓reduceIte, dk] <;> with_reducible rfl))
        | ((first | apply awR hΓ | apply awG | apply awH mixedOK hΓ rfl (by kernel_rfl) | apply ovE rfl); (simp (disch := omega) only [go_sem, ↓reduceIte, dk] <;> with_reducible rfl); exact trivial)
        | rfl)
      try rfl
end Go.Ab
