/-
  One text of the proof (own work): contracts of functions of the program, by the abstract machine.
-/
import Derived.Sort.Walk0
import Derived.Test.YtlfmbcjjojedgaaGreatDoorX19
import Derived.Test.YtlfmbcjjojedgaaGreatDoorX40
import Derived.Test.YtlfmbcjjojedgaaGreatDoorX27
set_option linter.unusedVariables false
set_option linter.unusedSimpArgs false
namespace Go.Ab
open Go Go.RowKit Go.Proofs
set_option maxRecDepth 10000
set_option maxHeartbeats 16000000
noncomputable def g_equalS : List D → Option D := encSpec (fun x : (List Bs) × (List Bs) => [.list (x.1.map .str), .list (x.2.map .str)]) (fun x : (List Bs) × (List Bs) => x.1.length ≤ 1099511627776 ∧ x.2.length ≤ 1099511627776) (fun x : (List Bs) × (List Bs) => .bool (x.1 == x.2))
theorem g_equalS_eq {a : List Bs} {b : List Bs} (hd : a.length ≤ 1099511627776 ∧ b.length ≤ 1099511627776) : g_equalS [.list (a.map .str), .list (b.map .str)] = some (.bool (a == b)) := encSpec_eq (x := (a, b)) hd fun y hy => by
    obtain ⟨y0, y1⟩ := y; simp only [List.cons.injEq, and_true, true_and, D.str.injEq, D.int.injEq, D.list.injEq, D.bool.injEq, D.agg.injEq, D.clo.injEq, Int.natCast_inj, inj_ie, eHd_ie] at hy
    (try obtain ⟨rfl, rfl⟩ := hy)
    (try subst_vars)
    rfl
theorem f_equalS_ok : PureOK Tryz.prog 28 true g_equalS := by
  have hΓ := Γ0_ok
  refine pure_enc (n := 26) (rs := [.tmp 4]) Tryz.func28 (by kernel_rfl) rfl (by kernel_rfl) (by kernel_rfl) ?_
  rintro ⟨a, b⟩ hd
  (try dsimp only at hd ⊢)
  refine ⟨fun _ => by (repeat (first | exact .int _ _ | exact .bool _ | exact .str _ | (refine .tup _ (fun d hd => ?_); simp only [List.mem_cons, List.not_mem_nil, or_false] at hd; rcases hd with rfl | hd))), fun k hz0 => ?_⟩
  obtain ⟨ha, hb⟩ := hd
  rw [start_frame (by simp)]; simp only [enumV, go_sem, emptyH]
  by_cases hne : a.length = b.length
  · have hb1 : (((a.length : Nat) : Int) != ((b.length : Nat) : Int)) = false := by rw [hne]; simp
    have hb2 : (((b.length : Nat) : Int) != ((b.length : Nat) : Int)) = false := by simp
    repeat (first
      | (apply axJ; (focus ((with_reducible constructor) <;> rfl)))
      | (apply awT mixedOK hΓ (by kernel_rfl); (simp (disch := omega) only [go_sem, ↓reduceIte, dk, ↓lk, hb1, hb2] <;> with_reducible rfl))
      | ((first | apply awR hΓ | apply awG | apply awH mixedOK hΓ rfl (by kernel_rfl) | apply ovE rfl); (simp (disch := omega) only [go_sem, ↓reduceIte, dk, ↓lk, hb1, hb2] <;> with_reducible rfl); exact trivial)
      | rfl)
    refine awp_loop_at (X := Nat) (fun i => (frame 26 [(0, .data (.list (a.map .str))), (1, .data (.list (b.map .str))), (11, .data (.list (a.map .str))), (12, .data (i64 a.length)), (13, .data (i64 i))])) (fun _ => []) 16
      (fun i => i ≤ a.length ∧ a.take i = b.take i) (fun i => a.length - i) 0 ⟨Nat.zero_le _, rfl⟩ (Weak.w) ?_
    rintro i ⟨h1, h2⟩
    by_cases hi : i < a.length
    · have hi2 : i < b.length := by omega
      by_cases hc : a[i] = b[i]
      · have hs : a.take (i + 1) = b.take (i + 1) := by rw [List.take_add_one, List.take_add_one, h2, List.getElem?_eq_getElem hi, List.getElem?_eq_getElem hi2, hc]
        have hcn : (a[i] != b[i]) = false := by rw [hc]; simp
        have hcn2 : (b[i] != b[i]) = false := by simp
        generalize hx : a[i] = x at *
        generalize hy : b[i] = y at *
        subst hc
        repeat (first
          | (apply axJ; (focus ((with_reducible constructor) <;> rfl)))
          | (apply awT mixedOK hΓ (by kernel_rfl); (simp (disch := omega) only [go_sem, ↓reduceIte, dk, ↓lk, hx, hy, hcn2] <;> with_reducible rfl))
          | ((first | apply awR hΓ | apply awG | apply awH mixedOK hΓ rfl (by kernel_rfl) | apply ovE rfl); (simp (disch := omega) only [go_sem, ↓reduceIte, dk, ↓lk, hx, hy, hcn2] <;> with_reducible rfl); exact trivial)
          | rfl)
        exact ⟨i + 1, ⟨by omega, hs⟩, by omega, Weak.w⟩
      · have hab : (a == b) = false := by
          rw [beq_eq_false_iff_ne]
          intro h
          subst h
          exact hc rfl
        have hcn : (a[i] == b[i]) = false := beq_eq_false_iff_ne.2 hc
        rw [hab]
        generalize hx : a[i] = x at *
        generalize hy : b[i] = y at *
        repeat (first
          | (apply axJ; (focus ((with_reducible constructor) <;> rfl)))
          | (apply awT mixedOK hΓ (by kernel_rfl); (simp (disch := omega) only [go_sem, ↓reduceIte, dk, ↓lk, hx, hy, hcn, Int.reduceBEq, Int.reduceBNe, Bool.true_bne, Bool.false_bne, Bool.not_true, Bool.not_false] <;> with_reducible rfl))
          | ((first | apply awR hΓ | apply awG | apply awH mixedOK hΓ rfl (by kernel_rfl) | apply ovE rfl); (simp (disch := omega) only [go_sem, ↓reduceIte, dk, ↓lk, hx, hy, hcn, Int.reduceBEq, Int.reduceBNe, Bool.true_bne, Bool.false_bne, Bool.not_true, Bool.not_false] <;> with_reducible rfl); exact trivial)
          | rfl)
        try rfl
    · have hi3 : i = a.length := by omega
      subst hi3
      rw [List.take_length, hne, List.take_length] at h2
      subst h2
      have hab : (a == a) = true := by simp
      rw [hab]
      repeat (first
        | (apply axJ; (focus ((with_reducible constructor) <;> rfl)))
        | (apply awT mixedOK hΓ (by kernel_rfl); (simp (disch := omega) only [go_sem, ↓reduceIte, dk, ↓lk] <;> with_reducible rfl))
        | ((first | apply awR hΓ | apply awG | apply awH mixedOK hΓ rfl (by kernel_rfl) | apply ovE rfl); (simp (disch := omega) only [go_sem, ↓reduceIte, dk, ↓lk] <;> with_reducible rfl); exact trivial)
        | rfl)
      try rfl
  · have hb1 : (((a.length : Nat) : Int) != ((b.length : Nat) : Int)) = true := by
      simp only [bne_iff_ne, ne_eq]
      omega
    have hab : (a == b) = false := by
      rw [beq_eq_false_iff_ne]
      intro h
      exact hne (by rw [h])
    rw [hab]
    repeat (first
      | (apply axJ; (focus ((with_reducible constructor) <;> rfl)))
      | (apply awT mixedOK hΓ (by kernel_rfl); (simp (disch := omega) only [go_sem, ↓reduceIte, dk, ↓lk, hb1] <;> with_reducible rfl))
      | ((first | apply awR hΓ | apply awG | apply awH mixedOK hΓ rfl (by kernel_rfl) | apply ovE rfl); (simp (disch := omega) only [go_sem, ↓reduceIte, dk, ↓lk, hb1] <;> with_reducible rfl); exact trivial)
      | rfl)
    try rfl
noncomputable def g_sameS31 : List D → Option D := encSpec (fun x : (List Bs) × (List Bs) => [.list (x.1.map .str), .list (x.2.map .str)]) (fun x : (List Bs) × (List Bs) => x.1.length ≤ 1099511627776 ∧ x.2.length ≤ 1099511627776) (fun x : (List Bs) × (List Bs) => .bool (x.1 == x.2))
theorem g_sameS31_eq {a : List Bs} {b : List Bs} (hd : a.length ≤ 1099511627776 ∧ b.length ≤ 1099511627776) : g_sameS31 [.list (a.map .str), .list (b.map .str)] = some (.bool (a == b)) := encSpec_eq (x := (a, b)) hd fun y hy => by
    obtain ⟨y0, y1⟩ := y; simp only [List.cons.injEq, and_true, true_and, D.str.injEq, D.int.injEq, D.list.injEq, D.bool.injEq, D.agg.injEq, D.clo.injEq, Int.natCast_inj, inj_ie, eHd_ie] at hy
    (try obtain ⟨rfl, rfl⟩ := hy)
    (try subst_vars)
    rfl
theorem f_sameS31_ok : PureOK Tryz.prog 21 true g_sameS31 := by
  have hΓ := Γ0_ok
  refine pure_enc (n := 26) (rs := [.tmp 4]) Tryz.func21 (by kernel_rfl) rfl (by kernel_rfl) (by kernel_rfl) ?_
  rintro ⟨a, b⟩ hd
  (try dsimp only at hd ⊢)
  refine ⟨fun _ => by (repeat (first | exact .int _ _ | exact .bool _ | exact .str _ | (refine .tup _ (fun d hd => ?_); simp only [List.mem_cons, List.not_mem_nil, or_false] at hd; rcases hd with rfl | hd))), fun k hz0 => ?_⟩
  obtain ⟨ha, hb⟩ := hd
  rw [start_frame (by simp)]; simp only [enumV, go_sem, emptyH]
  by_cases hne : a.length = b.length
  · have hb1 : (((a.length : Nat) : Int) != ((b.length : Nat) : Int)) = false := by rw [hne]; simp
    have hb2 : (((b.length : Nat) : Int) != ((b.length : Nat) : Int)) = false := by simp
    repeat (first
      | (apply axJ; (focus ((with_reducible constructor) <;> rfl)))
      | (apply awT mixedOK hΓ (by kernel_rfl); (simp (disch := omega) only [go_sem, ↓reduceIte, dk, ↓lk, hb1, hb2] <;> with_reducible rfl))
      | ((first | apply awR hΓ | apply awG | apply awH mixedOK hΓ rfl (by kernel_rfl) | apply ovE rfl); (simp (disch := omega) only [go_sem, ↓reduceIte, dk, ↓lk, hb1, hb2] <;> with_reducible rfl); exact trivial)
      | rfl)
    refine awp_loop_at (X := Nat) (fun i => (frame 26 [(0, .data (.list (a.map .str))), (1, .data (.list (b.map .str))), (5, .data (i64 i))])) (fun _ => []) 16
      (fun i => i ≤ a.length ∧ a.take i = b.take i) (fun i => a.length - i) 0 ⟨Nat.zero_le _, rfl⟩ (Weak.w) ?_
    rintro i ⟨h1, h2⟩
    by_cases hi : i < a.length
    · have hi2 : i < b.length := by omega
      by_cases hc : a[i] = b[i]
      · have hs : a.take (i + 1) = b.take (i + 1) := by rw [List.take_add_one, List.take_add_one, h2, List.getElem?_eq_getElem hi, List.getElem?_eq_getElem hi2, hc]
        have hcn2 : (b[i] != b[i]) = false := by simp
        generalize hx : a[i] = x at *
        generalize hy : b[i] = y at *
        subst hc
        repeat (first
          | (apply axJ; (focus ((with_reducible constructor) <;> rfl)))
          | (apply awT mixedOK hΓ (by kernel_rfl); (simp (disch := omega) only [go_sem, ↓reduceIte, dk, ↓lk, hx, hy, hcn2] <;> with_reducible rfl))
          | ((first | apply awR hΓ | apply awG | apply awH mixedOK hΓ rfl (by kernel_rfl) | apply ovE rfl); (simp (disch := omega) only [go_sem, ↓reduceIte, dk, ↓lk, hx, hy, hcn2] <;> with_reducible rfl); exact trivial)
          | rfl)
        exact ⟨i + 1, ⟨by omega, hs⟩, by omega, Weak.w⟩
      · have hab : (a == b) = false := by
          rw [beq_eq_false_iff_ne]
          intro h
          subst h
          exact hc rfl
        have hcn : (a[i] == b[i]) = false := beq_eq_false_iff_ne.2 hc
        rw [hab]
        generalize hx : a[i] = x at *
        generalize hy : b[i] = y at *
        repeat (first
          | (apply axJ; (focus ((with_reducible constructor) <;> rfl)))
          | (apply awT mixedOK hΓ (by kernel_rfl); (simp (disch := omega) only [go_sem, ↓reduceIte, dk, ↓lk, hx, hy, hcn, Int.reduceBEq, Int.reduceBNe, Bool.true_bne, Bool.false_bne, Bool.not_true, Bool.not_false] <;> with_reducible rfl))
          | ((first | apply awR hΓ | apply awG | apply awH mixedOK hΓ rfl (by kernel_rfl) | apply ovE rfl); (simp (disch := omega) only [go_sem, ↓reduceIte, dk, ↓lk, hx, hy, hcn, Int.reduceBEq, Int.reduceBNe, Bool.true_bne, Bool.false_bne, Bool.not_true, Bool.not_false] <;> with_reducible rfl); exact trivial)
          | rfl)
        try rfl
    · have hi3 : i = a.length := by omega
      subst hi3
      rw [List.take_length, hne, List.take_length] at h2
      subst h2
      have hab : (a == a) = true := by simp
      rw [hab]
      repeat (first
        | (apply axJ; (focus ((with_reducible constructor) <;> rfl)))
        | (apply awT mixedOK hΓ (by kernel_rfl); (simp (disch := omega) only [go_sem, ↓reduceIte, dk, ↓lk] <;> with_reducible rfl))
        | ((first | apply awR hΓ | apply awG | apply awH mixedOK hΓ rfl (by kernel_rfl) | apply ovE rfl); (simp (disch := omega) only [go_sem, ↓reduceIte, dk, ↓lk] <;> with_reducible rfl); exact trivial)
        | rfl)
      try rfl
  · have hb1 : (((a.length : Nat) : Int) != ((b.length : Nat) : Int)) = true := by
      simp only [bne_iff_ne, ne_eq]
      omega
    have hab : (a == b) = false := by
      rw [beq_eq_false_iff_ne]
      intro h
      exact hne (by rw [h])
    rw [hab]
    repeat (first
      | (apply axJ; (focus ((with_reducible constructor) <;> rfl)))
      | (apply awT mixedOK hΓ (by kernel_rfl); (simp (disch := omega) only [go_sem, ↓reduceIte, dk, ↓lk, hb1] <;> with_reducible rfl))
      | ((first | apply awR hΓ | apply awG | apply awH mixedOK hΓ rfl (by kernel_rfl) | apply ovE rfl); (simp (disch := omega) only [go_sem, ↓reduceIte, dk, ↓lk, hb1] <;> with_reducible rfl); exact trivial)
      | rfl)
    try rfl
theorem und_hd : Program.underlying Tryz.prog 26 = some (.struct #[⟨"Kind", 3, 0, false, "", "", 0⟩, ⟨"Line", 3, 1, false, "", "", 8⟩, ⟨"Text", 9, 2, false, "", "", 16⟩]) := by kernel_rfl
theorem eq_hd (a b c d : Int) (s t : Bs) : eqAgg Tryz.prog 26 [.int .i64 a, .int .i64 b, .str s] [.int .i64 c, .int .i64 d, .str t] = some ((a == c) && ((b == d) && (s == t))) := by
  have hg : (Tryz.prog.stoodInHeld 26 || Tryz.prog.eqGuardType Tryz.prog.depth 26) = false := by kernel_rfl
  unfold eqAgg
  rw [und_hd]
  simp only [hg, Bool.false_eq_true, if_false]
  simp [eqFlds, keyKind, keyEq, ty_und3, ty_agg3, ty_und9, ty_agg9]
theorem hd_beq (x y : Hd) : ((x.kind == y.kind) && ((x.line == y.line) && (x.text == y.text))) = decide (x = y) := by
  obtain ⟨a1, a2, a3⟩ := x
  obtain ⟨b1, b2, b3⟩ := y
  rw [Bool.eq_iff_iff]
  simp
noncomputable def g_equalH : List D → Option D := encSpec (fun x : (List Hd) × (List Hd) => [.list (x.1.map eHd), .list (x.2.map eHd)]) (fun x : (List Hd) × (List Hd) => x.1.length ≤ 1099511627776 ∧ x.2.length ≤ 1099511627776) (fun x : (List Hd) × (List Hd) => .bool (decide (x.1 = x.2)))
theorem g_equalH_eq {a : List Hd} {b : List Hd} (hd : a.length ≤ 1099511627776 ∧ b.length ≤ 1099511627776) : g_equalH [.list (a.map eHd), .list (b.map eHd)] = some (.bool (decide (a = b))) := encSpec_eq (x := (a, b)) hd fun y hy => by
    obtain ⟨y0, y1⟩ := y; simp only [List.cons.injEq, and_true, true_and, D.str.injEq, D.int.injEq, D.list.injEq, D.bool.injEq, D.agg.injEq, D.clo.injEq, Int.natCast_inj, inj_ie, eHd_ie] at hy
    (try obtain ⟨rfl, rfl⟩ := hy)
    (try subst_vars)
    rfl
theorem f_equalH_ok : PureOK Tryz.prog 12 true g_equalH := by
  have hΓ := Γ0_ok
  refine pure_enc (n := 26) (rs := [.tmp 4]) Tryz.func12 (by kernel_rfl) rfl (by kernel_rfl) (by kernel_rfl) ?_
  rintro ⟨a, b⟩ hd
  (try dsimp only at hd ⊢)
  refine ⟨fun _ => by (repeat (first | exact .int _ _ | exact .bool _ | exact .str _ | (refine .tup _ (fun d hd => ?_); simp only [List.mem_cons, List.not_mem_nil, or_false] at hd; rcases hd with rfl | hd))), fun k hz0 => ?_⟩
  obtain ⟨ha, hb⟩ := hd
  rw [start_frame (by simp)]; simp only [enumV, go_sem, emptyH]
  by_cases hne : a.length = b.length
  · have hb1 : (((a.length : Nat) : Int) != ((b.length : Nat) : Int)) = false := by rw [hne]; simp
    have hb2 : (((b.length : Nat) : Int) != ((b.length : Nat) : Int)) = false := by simp
    repeat (first
      | (apply axJ; (focus ((with_reducible constructor) <;> rfl)))
      | (apply awT mixedOK hΓ (by kernel_rfl); (simp (disch := omega) only [go_sem, ↓reduceIte, dk, ↓lk, hb1, hb2] <;> with_reducible rfl))
      | ((first | apply awR hΓ | apply awG | apply awH mixedOK hΓ rfl (by kernel_rfl) | apply ovE rfl); (simp (disch := omega) only [go_sem, ↓reduceIte, dk, ↓lk, hb1, hb2] <;> with_reducible rfl); exact trivial)
      | rfl)
    refine awp_loop_at (X := Nat) (fun i => (frame 26 [(0, .data (.list (a.map eHd))), (1, .data (.list (b.map eHd))), (12, .data (i64 a.length)), (13, .data (i64 i))])) (fun _ => []) 16
      (fun i => i ≤ a.length ∧ a.take i = b.take i) (fun i => a.length - i) 0 ⟨Nat.zero_le _, rfl⟩ (Weak.w) ?_
    rintro i ⟨h1, h2⟩
    by_cases hi : i < a.length
    · have hi2 : i < b.length := by omega
      have hq := eq_hd a[i].kind a[i].line b[i].kind b[i].line a[i].text b[i].text
      rw [hd_beq] at hq
      by_cases hc : a[i] = b[i]
      · have hs : a.take (i + 1) = b.take (i + 1) := by rw [List.take_add_one, List.take_add_one, h2, List.getElem?_eq_getElem hi, List.getElem?_eq_getElem hi2, hc]
        rw [decide_eq_true hc] at hq
        generalize hx : a[i] = x at *
        generalize hy : b[i] = y at *
        repeat (first
          | (apply axJ; (focus ((with_reducible constructor) <;> rfl)))
          | (apply awT mixedOK hΓ (by kernel_rfl); (simp (disch := omega) only [go_sem, ↓reduceIte, dk, ↓lk, hx, hy, hq, Int.reduceBEq, Int.reduceBNe, Bool.true_bne, Bool.false_bne, Bool.not_true, Bool.not_false, eHd_eq] <;> with_reducible rfl))
          | ((first | apply awR hΓ | apply awG | apply awH mixedOK hΓ rfl (by kernel_rfl) | apply ovE rfl); (simp (disch := omega) only [go_sem, ↓reduceIte, dk, ↓lk, hx, hy, hq, Int.reduceBEq, Int.reduceBNe, Bool.true_bne, Bool.false_bne, Bool.not_true, Bool.not_false, eHd_eq] <;> with_reducible rfl); exact trivial)
          | rfl)
        exact ⟨i + 1, ⟨by omega, hs⟩, by omega, Weak.w⟩
      · have hab : decide (a = b) = false := by
          refine decide_eq_false fun h => ?_
          subst h
          exact hc rfl
        rw [decide_eq_false hc] at hq
        rw [hab]
        generalize hx : a[i] = x at *
        generalize hy : b[i] = y at *
        repeat (first
          | (apply axJ; (focus ((with_reducible constructor) <;> rfl)))
          | (apply awT mixedOK hΓ (by kernel_rfl); (simp (disch := omega) only [go_sem, ↓reduceIte, dk, ↓lk, hx, hy, hq, Int.reduceBEq, Int.reduceBNe, Bool.true_bne, Bool.false_bne, Bool.not_true, Bool.not_false, eHd_eq] <;> with_reducible rfl))
          | ((first | apply awR hΓ | apply awG | apply awH mixedOK hΓ rfl (by kernel_rfl) | apply ovE rfl); (simp (disch := omega) only [go_sem, ↓reduceIte, dk, ↓lk, hx, hy, hq, Int.reduceBEq, Int.reduceBNe, Bool.true_bne, Bool.false_bne, Bool.not_true, Bool.not_false, eHd_eq] <;> with_reducible rfl); exact trivial)
          | rfl)
        try rfl
    · have hi3 : i = a.length := by omega
      subst hi3
      rw [List.take_length, hne, List.take_length] at h2
      subst h2
      rw [decide_eq_true rfl]
      repeat (first
        | (apply axJ; (focus ((with_reducible constructor) <;> rfl)))
        | (apply awT mixedOK hΓ (by kernel_rfl); (simp (disch := omega) only [go_sem, ↓reduceIte, dk, ↓lk] <;> with_reducible rfl))
        | ((first | apply awR hΓ | apply awG | apply awH mixedOK hΓ rfl (by kernel_rfl) | apply ovE rfl); (simp (disch := omega) only [go_sem, ↓reduceIte, dk, ↓lk] <;> with_reducible rfl); exact trivial)
        | rfl)
      try rfl
  · have hb1 : (((a.length : Nat) : Int) != ((b.length : Nat) : Int)) = true := by
      simp only [bne_iff_ne, ne_eq]
      omega
    rw [decide_eq_false (fun h => hne (by rw [h]))]
    repeat (first
      | (apply axJ; (focus ((with_reducible constructor) <;> rfl)))
      | (apply awT mixedOK hΓ (by kernel_rfl); (simp (disch := omega) only [go_sem, ↓reduceIte, dk, ↓lk, hb1] <;> with_reducible rfl))
      | ((first | apply awR hΓ | apply awG | apply awH mixedOK hΓ rfl (by kernel_rfl) | apply ovE rfl); (simp (disch := omega) only [go_sem, ↓reduceIte, dk, ↓lk, hb1] <;> with_reducible rfl); exact trivial)
      | rfl)
    try rfl
def sumT (l : List Hd) : Nat := (l.map fun h => h.text.length).sum
def fewH (l : List Hd) : Bool := !decide ((l.length : Int) > 30) && decide ((sumT l : Int) ≤ 1500)
theorem sumT_take {l : List Hd} {i : Nat} (hi : i < l.length) : sumT (l.take (i + 1)) = sumT (l.take i) + l[i].text.length := by
  unfold sumT
  rw [List.take_add_one, List.getElem?_eq_getElem hi, List.map_append, List.sum_append]
  rfl
theorem sumT_le {l : List Hd} (h : ∀ x ∈ l, x.text.length ≤ 1099511627776) : ∀ i, sumT (l.take i) ≤ i * 1099511627776
  | 0 => Nat.zero_le _
  | i + 1 => by
    have ih := sumT_le h i
    by_cases hi : i < l.length
    · have := h _ (List.getElem_mem hi)
      rw [sumT_take hi]
      omega
    · rw [List.take_of_length_le (show l.length ≤ i + 1 by omega)]
      rw [List.take_of_length_le (show l.length ≤ i by omega)] at ih
      exact Nat.le_trans ih (Nat.mul_le_mul_right _ (Nat.le_succ i))
noncomputable def g_fewR36 : List D → Option D := encSpec (fun x : (List Hd) => [.list (x.map eHd)]) (fun x : (List Hd) => x.length ≤ 1099511627776 ∧ ∀ h ∈ x, h.text.length ≤ 1099511627776) (fun x : (List Hd) => .bool (fewH x))
theorem g_fewR36_eq {l : List Hd} (hd : l.length ≤ 1099511627776 ∧ ∀ h ∈ l, h.text.length ≤ 1099511627776) : g_fewR36 [.list (l.map eHd)] = some (.bool (fewH l)) := encSpec_eq (x := l) hd fun y hy => by
    simp only [List.cons.injEq, and_true, true_and, D.str.injEq, D.int.injEq, D.list.injEq, D.bool.injEq, D.agg.injEq, D.clo.injEq, Int.natCast_inj, inj_ie, eHd_ie] at hy
    rw [hy]
theorem f_fewR36_ok : PureOK Tryz.prog 17 true g_fewR36 := by
  have hΓ := Γ0_ok
  refine pure_enc (n := 24) (rs := [.tmp 2]) Tryz.func17 (by kernel_rfl) rfl (by kernel_rfl) (by kernel_rfl) ?_
  rintro l hd
  (try dsimp only at hd ⊢)
  refine ⟨fun _ => by (repeat (first | exact .int _ _ | exact .bool _ | exact .str _ | (refine .tup _ (fun d hd => ?_); simp only [List.mem_cons, List.not_mem_nil, or_false] at hd; rcases hd with rfl | hd))), fun k hz0 => ?_⟩
  obtain ⟨h0, ht⟩ := hd
  unfold fewH
  rw [start_frame (by simp)]; simp only [enumV, go_sem, emptyH]
  by_cases h30 : (l.length : Int) > 30
  · rw [decide_eq_true h30]
    have h1 : decide ((l.length : Int) > 30) = true := decide_eq_true h30
    repeat (first
      | (apply axJ; (focus ((with_reducible constructor) <;> rfl)))
      | (apply awT mixedOK hΓ (by kernel_rfl); (simp (disch := omega) only [go_sem, ↓reduceIte, dk, ↓lk, Int.reduceBEq, Int.reduceBNe, Bool.true_bne, Bool.false_bne, Bool.not_true, Bool.not_false, h1] <;> with_reducible rfl))
      | ((first | apply awR hΓ | apply awG | apply awH mixedOK hΓ rfl (by kernel_rfl) | apply ovE rfl); (simp (disch := omega) only [go_sem, ↓reduceIte, dk, ↓lk, Int.reduceBEq, Int.reduceBNe, Bool.true_bne, Bool.false_bne, Bool.not_true, Bool.not_false, h1] <;> with_reducible rfl); exact trivial)
      | rfl)
    try rfl
  · rw [decide_eq_false h30]
    have h1 : decide ((l.length : Int) > 30) = false := decide_eq_false h30
    repeat (first
      | (apply axJ; (focus ((with_reducible constructor) <;> rfl)))
      | (apply awT mixedOK hΓ (by kernel_rfl); (simp (disch := omega) only [go_sem, ↓reduceIte, dk, ↓lk, Int.reduceBEq, Int.reduceBNe, Bool.true_bne, Bool.false_bne, Bool.not_true, Bool.not_false, h1] <;> with_reducible rfl))
      | ((first | apply awR hΓ | apply awG | apply awH mixedOK hΓ rfl (by kernel_rfl) | apply ovE rfl); (simp (disch := omega) only [go_sem, ↓reduceIte, dk, ↓lk, Int.reduceBEq, Int.reduceBNe, Bool.true_bne, Bool.false_bne, Bool.not_true, Bool.not_false, h1] <;> with_reducible rfl); exact trivial)
      | rfl)
    refine awp_loop_at (X := Nat) (fun i => (frame 24 [(0, .data (.list (l.map eHd))), (3, .data (i64 (sumT (l.take i)))), (4, .data (i64 i))])) (fun _ => []) 6
      (fun i => i ≤ l.length) (fun i => l.length - i) 0 (Nat.zero_le _) (Weak.v (by (simp [ConvF, lookV, Conv, ints, List.take_zero, sumT]; done)) (by (simp (disch := omega) only [TabSub, look, if_pos, if_neg, Obj.refsOK, refsOKs, AV.refsOK, decide_eq_true_eq, Bool.and_true, Bool.and_self, List.take_zero, sumT] ) <;> ((repeat' apply And.intro) <;> first | exact True.intro | omega | (simp; done) | rfl))) ?_
    intro i hi
    (try dsimp only at hi ⊢)
    by_cases hi2 : i < l.length
    · have hst := sumT_take hi2
      have hle := sumT_le ht i
      have hx := ht _ (List.getElem_mem hi2)
      generalize hy : l[i] = y at *
      generalize sumT (l.take i) = n at *
      repeat (first
        | (apply axJ; (focus ((with_reducible constructor) <;> rfl)))
        | (apply awT mixedOK hΓ (by kernel_rfl); (simp (disch := omega) only [go_sem, ↓reduceIte, dk, ↓lk, Int.reduceBEq, Int.reduceBNe, Bool.true_bne, Bool.false_bne, Bool.not_true, Bool.not_false, hy, eHd_eq] <;> with_reducible rfl))
        | ((first | apply awR hΓ | apply awG | apply awH mixedOK hΓ rfl (by kernel_rfl) | apply ovE rfl); (simp (disch := omega) only [go_sem, ↓reduceIte, dk, ↓lk, Int.reduceBEq, Int.reduceBNe, Bool.true_bne, Bool.false_bne, Bool.not_true, Bool.not_false, hy, eHd_eq] <;> with_reducible rfl); exact trivial)
        | rfl)
      exact ⟨i + 1, by omega, by omega, by rw [hst]; exact Weak.v (by (simp [ConvF, lookV, Conv, ints, Int.natCast_add]; done)) (by (simp (disch := omega) only [TabSub, look, if_pos, if_neg, Obj.refsOK, refsOKs, AV.refsOK, decide_eq_true_eq, Bool.and_true, Bool.and_self, Int.natCast_add] ) <;> ((repeat' apply And.intro) <;> first | exact True.intro | omega | (simp; done) | rfl))⟩
    · have hi3 : i = l.length := by omega
      subst hi3
      rw [List.take_length]
      repeat (first
        | (apply axJ; (focus ((with_reducible constructor) <;> rfl)))
        | (apply awT mixedOK hΓ (by kernel_rfl); (simp (disch := omega) only [go_sem, ↓reduceIte, dk, ↓lk, Int.reduceBEq, Int.reduceBNe, Bool.true_bne, Bool.false_bne, Bool.not_true, Bool.not_false] <;> with_reducible rfl))
        | ((first | apply awR hΓ | apply awG | apply awH mixedOK hΓ rfl (by kernel_rfl) | apply ovE rfl); (simp (disch := omega) only [go_sem, ↓reduceIte, dk, ↓lk, Int.reduceBEq, Int.reduceBNe, Bool.true_bne, Bool.false_bne, Bool.not_true, Bool.not_false] <;> with_reducible rfl); exact trivial)
        | rfl)
      try rfl
theorem bl_lt (a b : Bs) : Op.bytesLess a b = decide (a < b) := Go.Proofs.bytesLess_eq a b
theorem addGo_len (s : Bs) : ∀ (l : List Bs) (d : Bool), (addGo s d l).length ≤ l.length + 1
  | [], d => by rw [addGo]; split <;> simp
  | x :: l, d => by
    have h1 := addGo_len s l d
    rw [addGo, addGo_true]
    split
    · simp
    · split
      · simp
      · simp only [List.length_cons]; omega
theorem add_drop {s : Bs} {l : List Bs} {i : Nat} {d : Bool} (hi : i < l.length) : addGo s d (l.drop i) = if l[i] == s then l[i] :: addGo s true (l.drop (i + 1)) else if !d && decide (s < l[i]) then s :: l[i] :: addGo s true (l.drop (i + 1)) else l[i] :: addGo s d (l.drop (i + 1)) := by
  rw [List.drop_eq_getElem_cons hi, addGo]
noncomputable def g_addR36 : List D → Option D := encSpec (fun x : (List Bs) × Bs => [.list (x.1.map .str), .str x.2]) (fun x : (List Bs) × Bs => x.1.length ≤ 1000000000) (fun x : (List Bs) × Bs => .list ((addGo x.2 false x.1).map .str))
theorem g_addR36_eq {l : List Bs} {s : Bs} (hd : l.length ≤ 1000000000) : g_addR36 [.list (l.map .str), .str s] = some (.list ((addGo s false l).map .str)) := encSpec_eq (x := (l, s)) hd fun y hy => by
    obtain ⟨y0, y1⟩ := y; simp only [List.cons.injEq, and_true, true_and, D.str.injEq, D.int.injEq, D.list.injEq, D.bool.injEq, D.agg.injEq, D.clo.injEq, Int.natCast_inj, inj_ie, eHd_ie] at hy
    (try obtain ⟨rfl, rfl⟩ := hy)
    (try subst_vars)
    rfl
theorem f_addR36_ok : PureOK Tryz.prog 59 false g_addR36 := by
  have hΓ := Γ0_ok
  refine pure_enc (n := 48) (rs := [.tmp 4]) Tryz.func59 (by kernel_rfl) rfl (by kernel_rfl) (by kernel_rfl) ?_
  rintro ⟨l, s⟩ hd
  (try dsimp only at hd ⊢)
  refine ⟨fun h => (by cases h), fun k hz0 => ?_⟩
  rw [start_frame (by simp)]; simp only [enumV, go_sem, emptyH]
  repeat (first
    | (apply axJ; (focus ((with_reducible constructor) <;> rfl)))
    | (apply awT mixedOK hΓ (by kernel_rfl); (simp (disch := omega) only [go_sem, ↓reduceIte, dk, ↓lk] <;> with_reducible rfl))
    | ((first | apply awR hΓ | apply awG | apply awH mixedOK hΓ rfl (by kernel_rfl) | apply ovE rfl); (simp (disch := omega) only [go_sem, ↓reduceIte, dk, ↓lk] <;> with_reducible rfl); exact trivial)
    | rfl)
  refine awp_weak (Weak.nilrowF (i := 5) 9 (sz := 1) (by omega) (by omega) rfl) ?_
  refine awp_loop_at (X := Nat × Bool × List Bs) (fun y => (frame 48 [(0, .data (.list (l.map .str))), (1, .data (.str s)), (5, .row 4 y.2.2.length), (6, .data (.bool y.2.1)), (7, .data (i64 y.1))])) (fun y => [(4, .row 9 1 (y.2.2.map .str))]) 5
    (fun y => y.1 ≤ l.length ∧ y.2.2.length ≤ 2 * y.1 ∧ addGo s false l = y.2.2 ++ addGo s y.2.1 (l.drop y.1)) (fun y => l.length - y.1) (0, false, [])
    ⟨Nat.zero_le _, Nat.zero_le _, rfl⟩ (Weak.v (by (simp [ConvF, lookV, Conv, ints, upd]; done)) (by (simp (disch := omega) only [TabSub, look, if_pos, if_neg, Obj.refsOK, refsOKs, AV.refsOK, decide_eq_true_eq, Bool.and_true, Bool.and_self, upd] ) <;> ((repeat' apply And.intro) <;> first | exact True.intro | omega | (simp; done) | rfl))) ?_
  rintro ⟨i, d, acc⟩ ⟨h1, h2, h3⟩
  dsimp only at h1 h2 h3 ⊢
  by_cases hi : i < l.length
  · rw [add_drop hi] at h3
    have hbl := bl_lt s l[i]
    generalize hy : l[i] = y at *
    generalize hc1 : (y == s) = c1 at *
    generalize hc2 : decide (s < y) = c2 at *
    have m1 : (acc ++ [y]).map D.str = acc.map D.str ++ [.str y] := by rw [List.map_append]; rfl
    have m2 : (acc ++ [s, y]).map D.str = acc.map D.str ++ [.str s] ++ [.str y] := by rw [List.map_append]; simp
    cases c1
    · cases d
      · cases c2
        · repeat (first
          | (apply axJ; (focus ((with_reducible constructor) <;> rfl)))
          | (apply awT mixedOK hΓ (by kernel_rfl); (simp (disch := omega) only [go_sem, ↓reduceIte, dk, ↓lk, Int.reduceBEq, Int.reduceBNe, Bool.true_bne, Bool.false_bne, Bool.not_true, Bool.not_false, hy, hc1, hbl] <;> with_reducible rfl))
          | ((first | apply awR hΓ | apply awG | apply awH mixedOK hΓ rfl (by kernel_rfl) | apply ovE rfl); (simp (disch := omega) only [go_sem, ↓reduceIte, dk, ↓lk, Int.reduceBEq, Int.reduceBNe, Bool.true_bne, Bool.false_bne, Bool.not_true, Bool.not_false, hy, hc1, hbl] <;> with_reducible rfl); exact trivial)
          | rfl)
          refine ⟨(i + 1, false, acc ++ [y]), ⟨by dsimp only; omega, by dsimp only; rw [List.length_append]; simp only [List.length_cons, List.length_nil]; omega, by dsimp only; rw [h3]; simp⟩, by dsimp only; omega, ?_⟩
          exact Weak.v (by (simp [ConvF, lookV, Conv, ints, m1]; done)) (by (simp (disch := omega) only [TabSub, look, if_pos, if_neg, Obj.refsOK, refsOKs, AV.refsOK, decide_eq_true_eq, Bool.and_true, Bool.and_self, m1] ) <;> ((repeat' apply And.intro) <;> first | exact True.intro | omega | (simp; done) | rfl))
        · repeat (first
          | (apply axJ; (focus ((with_reducible constructor) <;> rfl)))
          | (apply awT mixedOK hΓ (by kernel_rfl); (simp (disch := omega) only [go_sem, ↓reduceIte, dk, ↓lk, Int.reduceBEq, Int.reduceBNe, Bool.true_bne, Bool.false_bne, Bool.not_true, Bool.not_false, hy, hc1, hbl] <;> with_reducible rfl))
          | ((first | apply awR hΓ | apply awG | apply awH mixedOK hΓ rfl (by kernel_rfl) | apply ovE rfl); (simp (disch := omega) only [go_sem, ↓reduceIte, dk, ↓lk, Int.reduceBEq, Int.reduceBNe, Bool.true_bne, Bool.false_bne, Bool.not_true, Bool.not_false, hy, hc1, hbl] <;> with_reducible rfl); exact trivial)
          | rfl)
          refine ⟨(i + 1, true, acc ++ [s, y]), ⟨by dsimp only; omega, by dsimp only; rw [List.length_append]; simp only [List.length_cons, List.length_nil]; omega, by dsimp only; rw [h3]; simp⟩, by dsimp only; omega, ?_⟩
          exact Weak.v (by (simp [ConvF, lookV, Conv, ints, m2]; done)) (by (simp (disch := omega) only [TabSub, look, if_pos, if_neg, Obj.refsOK, refsOKs, AV.refsOK, decide_eq_true_eq, Bool.and_true, Bool.and_self, m2] ) <;> ((repeat' apply And.intro) <;> first | exact True.intro | omega | (simp; done) | rfl))
      · repeat (first
        | (apply axJ; (focus ((with_reducible constructor) <;> rfl)))
        | (apply awT mixedOK hΓ (by kernel_rfl); (simp (disch := omega) only [go_sem, ↓reduceIte, dk, ↓lk, Int.reduceBEq, Int.reduceBNe, Bool.true_bne, Bool.false_bne, Bool.not_true, Bool.not_false, hy, hc1] <;> with_reducible rfl))
        | ((first | apply awR hΓ | apply awG | apply awH mixedOK hΓ rfl (by kernel_rfl) | apply ovE rfl); (simp (disch := omega) only [go_sem, ↓reduceIte, dk, ↓lk, Int.reduceBEq, Int.reduceBNe, Bool.true_bne, Bool.false_bne, Bool.not_true, Bool.not_false, hy, hc1] <;> with_reducible rfl); exact trivial)
        | rfl)
        refine ⟨(i + 1, true, acc ++ [y]), ⟨by dsimp only; omega, by dsimp only; rw [List.length_append]; simp only [List.length_cons, List.length_nil]; omega, by dsimp only; rw [h3]; simp⟩, by dsimp only; omega, ?_⟩
        exact Weak.v (by (simp [ConvF, lookV, Conv, ints, m1]; done)) (by (simp (disch := omega) only [TabSub, look, if_pos, if_neg, Obj.refsOK, refsOKs, AV.refsOK, decide_eq_true_eq, Bool.and_true, Bool.and_self, m1] ) <;> ((repeat' apply And.intro) <;> first | exact True.intro | omega | (simp; done) | rfl))
    · repeat (first
      | (apply axJ; (focus ((with_reducible constructor) <;> rfl)))
      | (apply awT mixedOK hΓ (by kernel_rfl); (simp (disch := omega) only [go_sem, ↓reduceIte, dk, ↓lk, Int.reduceBEq, Int.reduceBNe, Bool.true_bne, Bool.false_bne, Bool.not_true, Bool.not_false, hy, hc1] <;> with_reducible rfl))
      | ((first | apply awR hΓ | apply awG | apply awH mixedOK hΓ rfl (by kernel_rfl) | apply ovE rfl); (simp (disch := omega) only [go_sem, ↓reduceIte, dk, ↓lk, Int.reduceBEq, Int.reduceBNe, Bool.true_bne, Bool.false_bne, Bool.not_true, Bool.not_false, hy, hc1] <;> with_reducible rfl); exact trivial)
      | rfl)
      refine ⟨(i + 1, true, acc ++ [y]), ⟨by dsimp only; omega, by dsimp only; rw [List.length_append]; simp only [List.length_cons, List.length_nil]; omega, by dsimp only; rw [h3]; simp⟩, by dsimp only; omega, ?_⟩
      exact Weak.v (by (simp [ConvF, lookV, Conv, ints, m1]; done)) (by (simp (disch := omega) only [TabSub, look, if_pos, if_neg, Obj.refsOK, refsOKs, AV.refsOK, decide_eq_true_eq, Bool.and_true, Bool.and_self, m1] ) <;> ((repeat' apply And.intro) <;> first | exact True.intro | omega | (simp; done) | rfl))
  · have hi2 : i = l.length := by omega
    subst hi2
    rw [List.drop_length] at h3
    rw [h3]
    cases d
    · have m1 : (acc ++ [s]).map D.str = acc.map D.str ++ [.str s] := by rw [List.map_append]; rfl
      rw [show addGo s false [] = [s] from rfl, m1]
      repeat (first
        | (apply axJ; (focus ((with_reducible constructor) <;> rfl)))
        | (apply awT mixedOK hΓ (by kernel_rfl); (simp (disch := omega) only [go_sem, ↓reduceIte, dk, ↓lk, Int.reduceBEq, Int.reduceBNe, Bool.true_bne, Bool.false_bne, Bool.not_true, Bool.not_false] <;> with_reducible rfl))
        | ((first | apply awR hΓ | apply awG | apply awH mixedOK hΓ rfl (by kernel_rfl) | apply ovE rfl); (simp (disch := omega) only [go_sem, ↓reduceIte, dk, ↓lk, Int.reduceBEq, Int.reduceBNe, Bool.true_bne, Bool.false_bne, Bool.not_true, Bool.not_false] <;> with_reducible rfl); exact trivial)
        | rfl)
      try rfl
    · rw [show addGo s true [] = [] from rfl, List.append_nil]
      repeat (first
        | (apply axJ; (focus ((with_reducible constructor) <;> rfl)))
        | (apply awT mixedOK hΓ (by kernel_rfl); (simp (disch := omega) only [go_sem, ↓reduceIte, dk, ↓lk, Int.reduceBEq, Int.reduceBNe, Bool.true_bne, Bool.false_bne, Bool.not_true, Bool.not_false] <;> with_reducible rfl))
        | ((first | apply awR hΓ | apply awG | apply awH mixedOK hΓ rfl (by kernel_rfl) | apply ovE rfl); (simp (disch := omega) only [go_sem, ↓reduceIte, dk, ↓lk, Int.reduceBEq, Int.reduceBNe, Bool.true_bne, Bool.false_bne, Bool.not_true, Bool.not_false] <;> with_reducible rfl); exact trivial)
        | rfl)
      try rfl
def holdGo (acc : List Bs) (h : Hd) : List Bs := if isK 1 h then addGo h.text false acc else acc
theorem holdR_go (l : List Hd) : holdR l = l.foldl holdGo [] := rfl
theorem holdGo_take {l : List Hd} {i : Nat} (hi : i < l.length) : (l.take (i + 1)).foldl holdGo [] = holdGo ((l.take i).foldl holdGo []) l[i] := by
  rw [List.take_add_one, List.getElem?_eq_getElem hi, List.foldl_append]
  rfl
theorem holdGo_len (l : List Hd) : ∀ i, i ≤ l.length → ((l.take i).foldl holdGo []).length ≤ i
  | 0, _ => Nat.le_refl _
  | i + 1, h => by
    have ih := holdGo_len l i (by omega)
    rw [holdGo_take (by omega)]
    unfold holdGo at ih ⊢
    split
    · have := addGo_len l[i].text ((l.take i).foldl (fun acc h => if isK 1 h then addGo h.text false acc else acc) []) false
      omega
    · omega
noncomputable def g_holdR36 : List D → Option D := encSpec (fun x : (List Hd) => [.list (x.map eHd)]) (fun x : (List Hd) => x.length ≤ 1000000) (fun x : (List Hd) => .list ((holdR x).map .str))
theorem g_holdR36_eq {l : List Hd} (hd : l.length ≤ 1000000) : g_holdR36 [.list (l.map eHd)] = some (.list ((holdR l).map .str)) := encSpec_eq (x := l) hd fun y hy => by
    simp only [List.cons.injEq, and_true, true_and, D.str.injEq, D.int.injEq, D.list.injEq, D.bool.injEq, D.agg.injEq, D.clo.injEq, Int.natCast_inj, inj_ie, eHd_ie] at hy
    rw [hy]
theorem f_holdR36_ok : PureOK Tryz.prog 23 false g_holdR36 := by
  have hΓ := Γp f_addR36_ok (Γn)
  refine pure_enc (n := 25) (rs := [.tmp 2]) Tryz.func23 (by kernel_rfl) rfl (by kernel_rfl) (by kernel_rfl) ?_
  rintro l hd
  (try dsimp only at hd ⊢)
  refine ⟨fun h => (by cases h), fun k hz0 => ?_⟩
  rw [holdR_go]
  rw [start_frame (by simp)]; simp only [enumV, go_sem, emptyH]
  repeat (first
    | (apply axJ; (focus ((with_reducible constructor) <;> rfl)))
    | (apply awT mixedOK hΓ (by kernel_rfl); (simp (disch := omega) only [go_sem, ↓reduceIte, dk, ↓lk] <;> with_reducible rfl))
    | ((first | apply awR hΓ | apply awG | apply awH mixedOK hΓ rfl (by kernel_rfl) | apply ovE rfl); (simp (disch := omega) only [go_sem, ↓reduceIte, dk, ↓lk] <;> with_reducible rfl); exact trivial)
    | rfl)
  refine awp_loop_at (X := Nat) (fun i => (frame 25 [(0, .data (.list (l.map eHd))), (3, .data (.list (((l.take i).foldl holdGo []).map .str))), (4, .data (i64 i))])) (fun _ => []) 4
    (fun i => i ≤ l.length) (fun i => l.length - i) 0 (Nat.zero_le _) (Weak.v (by (repeat' (first | exact True.intro | apply And.intro | exact rfl | exact Or.inl rfl | exact Or.inr (Or.inl ⟨rfl, rfl⟩) | exact Or.inr (Or.inr ⟨_, _, rfl, rfl, by (first | (simp; done) | (simp; omega))⟩))); done) (by (simp (disch := omega) only [TabSub, look, if_pos, if_neg, Obj.refsOK, refsOKs, AV.refsOK, decide_eq_true_eq, Bool.and_true, Bool.and_self, List.take_zero] ) <;> ((repeat' apply And.intro) <;> first | exact True.intro | omega | (simp; done) | rfl))) ?_
  intro i hi
  (try dsimp only at hi ⊢)
  by_cases hi2 : i < l.length
  · have hst := holdGo_take hi2
    have hle := holdGo_len l i (by omega)
    generalize hy : l[i] = y at *
    generalize (l.take i).foldl holdGo [] = acc at *
    rw [show holdGo acc y = if isK 1 y then addGo y.text false acc else acc from rfl] at hst
    have ha := g_addR36_eq (l := acc) (s := y.text) (by omega)
    have hk : (y.kind == 1) = isK 1 y := rfl
    generalize isK 1 y = c at *
    cases c
    · rw [if_neg (by decide)] at hst
      repeat (first
        | (apply axJ; (focus ((with_reducible constructor) <;> rfl)))
        | (apply awT mixedOK hΓ (by kernel_rfl); (simp (disch := omega) only [go_sem, ↓reduceIte, dk, ↓lk, Int.reduceBEq, Int.reduceBNe, Bool.true_bne, Bool.false_bne, Bool.not_true, Bool.not_false, hy, hk, eHd_eq] <;> with_reducible rfl))
        | ((first | apply awR hΓ | apply awG | apply awH mixedOK hΓ rfl (by kernel_rfl) | apply ovE rfl); (simp (disch := omega) only [go_sem, ↓reduceIte, dk, ↓lk, Int.reduceBEq, Int.reduceBNe, Bool.true_bne, Bool.false_bne, Bool.not_true, Bool.not_false, hy, hk, eHd_eq] <;> with_reducible rfl); exact trivial)
        | rfl)
      exact ⟨i + 1, by omega, by omega, by rw [hst]; exact Weak.w⟩
    · rw [if_pos rfl] at hst
      repeat (first
        | (apply axJ; (focus ((with_reducible constructor) <;> rfl)))
        | (apply awT mixedOK hΓ (by kernel_rfl); (simp (disch := omega) only [go_sem, ↓reduceIte, dk, ↓lk, Int.reduceBEq, Int.reduceBNe, Bool.true_bne, Bool.false_bne, Bool.not_true, Bool.not_false, hy, hk, ha, eHd_eq] <;> with_reducible rfl))
        | ((first | apply awR hΓ | apply awG | apply awH mixedOK hΓ rfl (by kernel_rfl) | apply ovE rfl); (simp (disch := omega) only [go_sem, ↓reduceIte, dk, ↓lk, Int.reduceBEq, Int.reduceBNe, Bool.true_bne, Bool.false_bne, Bool.not_true, Bool.not_false, hy, hk, ha, eHd_eq] <;> with_reducible rfl); exact trivial)
        | rfl)
      exact ⟨i + 1, by omega, by omega, by rw [hst]; exact Weak.w⟩
  · have hi3 : i = l.length := by omega
    subst hi3
    rw [List.take_length]
    repeat (first
      | (apply axJ; (focus ((with_reducible constructor) <;> rfl)))
      | (apply awT mixedOK hΓ (by kernel_rfl); (simp (disch := omega) only [go_sem, ↓reduceIte, dk, ↓lk] <;> with_reducible rfl))
      | ((first | apply awR hΓ | apply awG | apply awH mixedOK hΓ rfl (by kernel_rfl) | apply ovE rfl); (simp (disch := omega) only [go_sem, ↓reduceIte, dk, ↓lk] <;> with_reducible rfl); exact trivial)
      | rfl)
    try rfl
end Go.Ab
