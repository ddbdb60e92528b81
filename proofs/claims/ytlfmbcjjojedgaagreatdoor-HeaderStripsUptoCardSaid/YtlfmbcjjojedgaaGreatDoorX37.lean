/-
  One text of the proof (own work): contracts of functions of the program, by the abstract machine.
-/
import Derived.Sort.Walk0
import Derived.Test.YtlfmbcjjojedgaaGreatDoorX19
import Derived.Test.YtlfmbcjjojedgaaGreatDoorX36
import Derived.Test.YtlfmbcjjojedgaaGreatDoorX26
import Derived.Test.YtlfmbcjjojedgaaGreatDoorX35
import Derived.Test.YtlfmbcjjojedgaaGreatDoorX28
import Derived.Test.YtlfmbcjjojedgaaGreatDoorX22
set_option linter.unusedVariables false
set_option linter.unusedSimpArgs false
namespace Go.Ab
open Go Go.RowKit Go.Proofs
set_option maxRecDepth 10000
set_option maxHeartbeats 16000000
noncomputable def g_equalS : List D → Option D := encSpec (fun x : (List Bs) × (List Bs) => [.list (x.1.map .str), .list (x.2.map .str)]) (fun x : (List Bs) × (List Bs) => x.1.length ≤ 1099511627776 ∧ x.2.length ≤ 1099511627776) (fun x : (List Bs) × (List Bs) => .bool (x.1 == x.2))
theorem g_equalS_eq {a : List Bs} {b : List Bs} (hd : a.length ≤ 1099511627776 ∧ b.length ≤ 1099511627776) : g_equalS [.list (a.map .str), .list (b.map .str)] = some (.bool (a == b)) := encSpec_eq (x := (a, b)) hd fun y hy => by
    obtain ⟨y0, y1⟩ := y; simp only [List.cons.injEq, and_true, true_and, D.str.injEq, D.int.injEq, D.list.injEq, D.bool.injEq, D.agg.injEq, D.clo.injEq, Int.natCast_inj, inj_ie, eHd_ie] at hy
    (try obtain ⟨rfl, rfl⟩ := hy)
    (try subst_vars)
    rfl
theorem f_equalS_ok : PureOK Tryz.prog 28 true g_equalS := by
  have hΓ := Γ0_ok
  refine pure_enc (n := 26) (rs := [.tmp 4]) Tryz.func28 (by kernel_rfl) rfl (by kernel_rfl) (by kernel_rfl) ?_
  rintro ⟨a, b⟩ hd
  (try dsimp only at hd ⊢)
  refine ⟨fun _ => by (repeat (first | exact .int _ _ | exact .bool _ | exact .str _ | (refine .tup _ (fun d hd => ?_); simp only [List.mem_cons, List.not_mem_nil, or_false] at hd; rcases hd with rfl | hd))), fun k hz0 => ?_⟩
  obtain ⟨ha, hb⟩ := hd
  rw [start_frame (by simp)]; simp only [enumV, go_sem, emptyH]
  by_cases hne : a.length = b.length
  · have hb1 : (((a.length : Nat) : Int) != ((b.length : Nat) : Int)) = false := by rw [hne]; simp
    have hb2 : (((b.length : Nat) : Int) != ((b.length : Nat) : Int)) = false := by simp
    repeat (first
      | (apply axJ; (focus ((with_reducible constructor) <;> rfl)))
      | (apply awT mixedOK hΓ (by kernel_rfl); (simp (disch := omega) only [go_sem, ↓reduceIte, dk, ↓lk, hb1, hb2] <;> with_reducible rfl))
      | ((first | apply awR hΓ | apply awG | apply awH mixedOK hΓ rfl (by kernel_rfl) | apply ovE rfl); (simp (disch := omega) only [go_sem, ↓reduceIte, dk, ↓lk, hb1, hb2] <;> with_reducible rfl); exact trivial)
      | rfl)
    refine awp_loop_at (X := Nat) (fun i => (frame 26 [(0, .data (.list (a.map .str))), (1, .data (.list (b.map .str))), (11, .data (.list (a.map .str))), (12, .data (i64 a.length)), (13, .data (i64 i))])) (fun _ => []) 16
      (fun i => i ≤ a.length ∧ a.take i = b.take i) (fun i => a.length - i) 0 ⟨Nat.zero_le _, rfl⟩ (Weak.w) ?_
    rintro i ⟨h1, h2⟩
    by_cases hi : i < a.length
    · have hi2 : i < b.length := by omega
      by_cases hc : a[i] = b[i]
      · have hs : a.take (i + 1) = b.take (i + 1) := by rw [List.take_add_one, List.take_add_one, h2, List.getElem?_eq_getElem hi, List.getElem?_eq_getElem hi2, hc]
        have hcn : (a[i] != b[i]) = false := by rw [hc]; simp
        have hcn2 : (b[i] != b[i]) = false := by simp
        generalize hx : a[i] = x at *
        generalize hy : b[i] = y at *
        subst hc
        repeat (first
          | (apply axJ; (focus ((with_reducible constructor) <;> rfl)))
          | (apply awT mixedOK hΓ (by kernel_rfl); (simp (disch := omega) only [go_sem, ↓reduceIte, dk, ↓lk, hx, hy, hcn2] <;> with_reducible rfl))
          | ((first | apply awR hΓ | apply awG | apply awH mixedOK hΓ rfl (by kernel_rfl) | apply ovE rfl); (simp (disch := omega) only [go_sem, ↓reduceIte, dk, ↓lk, hx, hy, hcn2] <;> with_reducible rfl); exact trivial)
          | rfl)
        exact ⟨i + 1, ⟨by omega, hs⟩, by omega, Weak.w⟩
      · have hab : (a == b) = false := by
          rw [beq_eq_false_iff_ne]
          intro h
          subst h
          exact hc rfl
        have hcn : (a[i] == b[i]) = false := beq_eq_false_iff_ne.2 hc
        rw [hab]
        generalize hx : a[i] = x at *
        generalize hy : b[i] = y at *
        repeat (first
          | (apply axJ; (focus ((with_reducible constructor) <;> rfl)))
          | (apply awT mixedOK hΓ (by kernel_rfl); (simp (disch := omega) only [go_sem, ↓reduceIte, dk, ↓lk, hx, hy, hcn, Int.reduceBEq, Int.reduceBNe, Bool.true_bne, Bool.false_bne, Bool.not_true, Bool.not_false] <;> with_reducible rfl))
          | ((first | apply awR hΓ | apply awG | apply awH mixedOK hΓ rfl (by kernel_rfl) | apply ovE rfl); (simp (disch := omega) only [go_sem, ↓reduceIte, dk, ↓lk, hx, hy, hcn, Int.reduceBEq, Int.reduceBNe, Bool.true_bne, Bool.false_bne, Bool.not_true, Bool.not_false] <;> with_reducible rfl); exact trivial)
          | rfl)
        try rfl
    · have hi3 : i = a.length := by omega
      subst hi3
      rw [List.take_length, hne, List.take_length] at h2
      subst h2
      have hab : (a == a) = true := by simp
      rw [hab]
      repeat (first
        | (apply axJ; (focus ((with_reducible constructor) <;> rfl)))
        | (apply awT mixedOK hΓ (by kernel_rfl); (simp (disch := omega) only [go_sem, ↓reduceIte, dk, ↓lk] <;> with_reducible rfl))
        | ((first | apply awR hΓ | apply awG | apply awH mixedOK hΓ rfl (by kernel_rfl) | apply ovE rfl); (simp (disch := omega) only [go_sem, ↓reduceIte, dk, ↓lk] <;> with_reducible rfl); exact trivial)
        | rfl)
      try rfl
  · have hb1 : (((a.length : Nat) : Int) != ((b.length : Nat) : Int)) = true := by
      simp only [bne_iff_ne, ne_eq]
      omega
    have hab : (a == b) = false := by
      rw [beq_eq_false_iff_ne]
      intro h
      exact hne (by rw [h])
    rw [hab]
    repeat (first
      | (apply axJ; (focus ((with_reducible constructor) <;> rfl)))
      | (apply awT mixedOK hΓ (by kernel_rfl); (simp (disch := omega) only [go_sem, ↓reduceIte, dk, ↓lk, hb1] <;> with_reducible rfl))
      | ((first | apply awR hΓ | apply awG | apply awH mixedOK hΓ rfl (by kernel_rfl) | apply ovE rfl); (simp (disch := omega) only [go_sem, ↓reduceIte, dk, ↓lk, hb1] <;> with_reducible rfl); exact trivial)
      | rfl)
    try rfl
theorem und_hd : Program.underlying Tryz.prog 26 = some (.struct #[⟨"Kind", 3, 0, false, "", "", 0⟩, ⟨"Line", 3, 1, false, "", "", 8⟩, ⟨"Text", 9, 2, false, "", "", 16⟩]) := by kernel_rfl
theorem eq_hd (a b c d : Int) (s t : Bs) : eqAgg Tryz.prog 26 [.int .i64 a, .int .i64 b, .str s] [.int .i64 c, .int .i64 d, .str t] = some ((a == c) && ((b == d) && (s == t))) := by
  have hg : (Tryz.prog.stoodInHeld 26 || Tryz.prog.eqGuardType Tryz.prog.depth 26) = false := by kernel_rfl
  unfold eqAgg
  rw [und_hd]
  simp only [hg, Bool.false_eq_true, if_false]
  simp [eqFlds, keyKind, keyEq, ty_und3, ty_agg3, ty_und9, ty_agg9]
theorem hd_beq (x y : Hd) : ((x.kind == y.kind) && ((x.line == y.line) && (x.text == y.text))) = decide (x = y) := by
  obtain ⟨a1, a2, a3⟩ := x
  obtain ⟨b1, b2, b3⟩ := y
  rw [Bool.eq_iff_iff]
  simp
noncomputable def g_equalH : List D → Option D := encSpec (fun x : (List Hd) × (List Hd) => [.list (x.1.map eHd), .list (x.2.map eHd)]) (fun x : (List Hd) × (List Hd) => x.1.length ≤ 1099511627776 ∧ x.2.length ≤ 1099511627776) (fun x : (List Hd) × (List Hd) => .bool (decide (x.1 = x.2)))
theorem g_equalH_eq {a : List Hd} {b : List Hd} (hd : a.length ≤ 1099511627776 ∧ b.length ≤ 1099511627776) : g_equalH [.list (a.map eHd), .list (b.map eHd)] = some (.bool (decide (a = b))) := encSpec_eq (x := (a, b)) hd fun y hy => by
    obtain ⟨y0, y1⟩ := y; simp only [List.cons.injEq, and_true, true_and, D.str.injEq, D.int.injEq, D.list.injEq, D.bool.injEq, D.agg.injEq, D.clo.injEq, Int.natCast_inj, inj_ie, eHd_ie] at hy
    (try obtain ⟨rfl, rfl⟩ := hy)
    (try subst_vars)
    rfl
theorem f_equalH_ok : PureOK Tryz.prog 12 true g_equalH := by
  have hΓ := Γ0_ok
  refine pure_enc (n := 26) (rs := [.tmp 4]) Tryz.func12 (by kernel_rfl) rfl (by kernel_rfl) (by kernel_rfl) ?_
  rintro ⟨a, b⟩ hd
  (try dsimp only at hd ⊢)
  refine ⟨fun _ => by (repeat (first | exact .int _ _ | exact .bool _ | exact .str _ | (refine .tup _ (fun d hd => ?_); simp only [List.mem_cons, List.not_mem_nil, or_false] at hd; rcases hd with rfl | hd))), fun k hz0 => ?_⟩
  obtain ⟨ha, hb⟩ := hd
  rw [start_frame (by simp)]; simp only [enumV, go_sem, emptyH]
  by_cases hne : a.length = b.length
  · have hb1 : (((a.length : Nat) : Int) != ((b.length : Nat) : Int)) = false := by rw [hne]; simp
    have hb2 : (((b.length : Nat) : Int) != ((b.length : Nat) : Int)) = false := by simp
    repeat (first
      | (apply axJ; (focus ((with_reducible constructor) <;> rfl)))
      | (apply awT mixedOK hΓ (by kernel_rfl); (simp (disch := omega) only [go_sem, ↓reduceIte, dk, ↓lk, hb1, hb2] <;> with_reducible rfl))
      | ((first | apply awR hΓ | apply awG | apply awH mixedOK hΓ rfl (by kernel_rfl) | apply ovE rfl); (simp (disch := omega) only [go_sem, ↓reduceIte, dk, ↓lk, hb1, hb2] <;> with_reducible rfl); exact trivial)
      | rfl)
    refine awp_loop_at (X := Nat) (fun i => (frame 26 [(0, .data (.list (a.map eHd))), (1, .data (.list (b.map eHd))), (12, .data (i64 a.length)), (13, .data (i64 i))])) (fun _ => []) 16
      (fun i => i ≤ a.length ∧ a.take i = b.take i) (fun i => a.length - i) 0 ⟨Nat.zero_le _, rfl⟩ (Weak.w) ?_
    rintro i ⟨h1, h2⟩
    by_cases hi : i < a.length
    · have hi2 : i < b.length := by omega
      have hq := eq_hd a[i].kind a[i].line b[i].kind b[i].line a[i].text b[i].text
      rw [hd_beq] at hq
      by_cases hc : a[i] = b[i]
      · have hs : a.take (i + 1) = b.take (i + 1) := by rw [List.take_add_one, List.take_add_one, h2, List.getElem?_eq_getElem hi, List.getElem?_eq_getElem hi2, hc]
        rw [decide_eq_true hc] at hq
        generalize hx : a[i] = x at *
        generalize hy : b[i] = y at *
        repeat (first
          | (apply axJ; (focus ((with_reducible constructor) <;> rfl)))
          | (apply awT mixedOK hΓ (by kernel_rfl); (simp (disch := omega) only [go_sem, ↓reduceIte, dk, ↓lk, hx, hy, hq, Int.reduceBEq, Int.reduceBNe, Bool.true_bne, Bool.false_bne, Bool.not_true, Bool.not_false, eHd_eq] <;> with_reducible rfl))
          | ((first | apply awR hΓ | apply awG | apply awH mixedOK hΓ rfl (by kernel_rfl) | apply ovE rfl); (simp (disch := omega) only [go_sem, ↓reduceIte, dk, ↓lk, hx, hy, hq, Int.reduceBEq, Int.reduceBNe, Bool.true_bne, Bool.false_bne, Bool.not_true, Bool.not_false, eHd_eq] <;> with_reducible rfl); exact trivial)
          | rfl)
        exact ⟨i + 1, ⟨by omega, hs⟩, by omega, Weak.w⟩
      · have hab : decide (a = b) = false := by
          refine decide_eq_false fun h => ?_
          subst h
          exact hc rfl
        rw [decide_eq_false hc] at hq
        rw [hab]
        generalize hx : a[i] = x at *
        generalize hy : b[i] = y at *
        repeat (first
          | (apply axJ; (focus ((with_reducible constructor) <;> rfl)))
          | (apply awT mixedOK hΓ (by kernel_rfl); (simp (disch := omega) only [go_sem, ↓reduceIte, dk, ↓lk, hx, hy, hq, Int.reduceBEq, Int.reduceBNe, Bool.true_bne, Bool.false_bne, Bool.not_true, Bool.not_false, eHd_eq] <;> with_reducible rfl))
          | ((first | apply awR hΓ | apply awG | apply awH mixedOK hΓ rfl (by kernel_rfl) | apply ovE rfl); (simp (disch := omega) only [go_sem, ↓reduceIte, dk, ↓lk, hx, hy, hq, Int.reduceBEq, Int.reduceBNe, Bool.true_bne, Bool.false_bne, Bool.not_true, Bool.not_false, eHd_eq] <;> with_reducible rfl); exact trivial)
          | rfl)
        try rfl
    · have hi3 : i = a.length := by omega
      subst hi3
      rw [List.take_length, hne, List.take_length] at h2
      subst h2
      rw [decide_eq_true rfl]
      repeat (first
        | (apply axJ; (focus ((with_reducible constructor) <;> rfl)))
        | (apply awT mixedOK hΓ (by kernel_rfl); (simp (disch := omega) only [go_sem, ↓reduceIte, dk, ↓lk] <;> with_reducible rfl))
        | ((first | apply awR hΓ | apply awG | apply awH mixedOK hΓ rfl (by kernel_rfl) | apply ovE rfl); (simp (disch := omega) only [go_sem, ↓reduceIte, dk, ↓lk] <;> with_reducible rfl); exact trivial)
        | rfl)
      try rfl
  · have hb1 : (((a.length : Nat) : Int) != ((b.length : Nat) : Int)) = true := by
      simp only [bne_iff_ne, ne_eq]
      omega
    rw [decide_eq_false (fun h => hne (by rw [h]))]
    repeat (first
      | (apply axJ; (focus ((with_reducible constructor) <;> rfl)))
      | (apply awT mixedOK hΓ (by kernel_rfl); (simp (disch := omega) only [go_sem, ↓reduceIte, dk, ↓lk, hb1] <;> with_reducible rfl))
      | ((first | apply awR hΓ | apply awG | apply awH mixedOK hΓ rfl (by kernel_rfl) | apply ovE rfl); (simp (disch := omega) only [go_sem, ↓reduceIte, dk, ↓lk, hb1] <;> with_reducible rfl); exact trivial)
      | rfl)
    try rfl
end Go.Ab
namespace Go.Ab
open Go Go.RowKit Go.Proofs
set_option maxRecDepth 10000
set_option maxHeartbeats 16000000
theorem and_bd {kids : List LX} (h : ∀ k ∈ kids, checkE k = 0 ∧ k.Bd 1099511627776) (hl : kids.length ≤ 1000) : (LX.mk 2 [] [] kids).Bd 1099511627776 := by
  refine .mk _ (Nat.zero_le _) (Nat.zero_le _) ?_ (fun z hz => (h z hz).2)
  have key : ∀ l : List LX, (∀ k ∈ l, checkE k = 0) → LX.size.sizes l ≤ 64 * l.length := by
    intro l
    induction l with
    | nil => intro _; exact Nat.le_refl _
    | cons k l ih =>
      intro hk
      have h1 := ih fun z hz => hk z (by simp [hz])
      have h2 := (check_ok (hk k (by simp))).1
      rw [LX.size.sizes, List.length_cons]
      omega
  have := key kids fun k hk => (h k hk).1
  rw [LX.size]
  omega
theorem decl_drop {kids : List LX} {l : List Hd} {i : Nat} (hi : i < l.length) : declGo kids (l.drop i) = if isK 0 l[i] then (if (pParse l[i].text).2.2 == 0 then declGo (kidStep kids (pParse l[i].text).1) (l.drop (i + 1)) else (x0, l[i].line, (pParse l[i].text).2.2)) else declGo kids (l.drop (i + 1)) := by
  rw [List.drop_eq_getElem_cons hi, declGo]
noncomputable def g_declP : List D → Option D := encSpec (fun x : (List Hd) => [.list (x.map eHd)]) (fun x : (List Hd) => x.length ≤ 1000 ∧ ∀ h ∈ x, h.text.length ≤ 1099511627776) (fun x : (List Hd) => ePr (declGo [] x))
theorem g_declP_eq {l : List Hd} (hd : l.length ≤ 1000 ∧ ∀ h ∈ l, h.text.length ≤ 1099511627776) : g_declP [.list (l.map eHd)] = some (ePr (declGo [] l)) := encSpec_eq (x := l) hd fun y hy => by
    simp only [List.cons.injEq, and_true, true_and, D.str.injEq, D.int.injEq, D.list.injEq, D.bool.injEq, D.agg.injEq, D.clo.injEq, Int.natCast_inj, inj_ie, lx_ie, eHd_ie] at hy
    rw [hy]
theorem f_declP_ok : PureOK Tryz.prog 18 false g_declP := by
  have hΓ := Γp f_parseP_ok (Γp f_anyDc_ok (Γp f_checkP_ok (Γn)))
  refine pure_enc (n := 63) (rs := [.cell 2 33, .tmp 3, .tmp 4]) Tryz.func18 (by kernel_rfl) rfl (by kernel_rfl) (by kernel_rfl) ?_
  rintro l hd
  (try dsimp only at hd ⊢)
  refine ⟨fun h => (by cases h), fun k hz0 => ?_⟩
  obtain ⟨hl, ht⟩ := hd
  rw [start_frame (by simp)]; simp only [enumV, go_sem, emptyH]
  repeat (first
    | (apply axJ; (focus ((with_reducible constructor) <;> rfl)))
    | (apply awT mixedOK hΓ (by kernel_rfl); (simp (disch := omega) only [go_sem, ↓reduceIte, dk, ↓lk] <;> with_reducible rfl))
    | ((first | apply awR hΓ | apply awG | apply awH mixedOK hΓ rfl (by kernel_rfl) | apply ovE rfl); (simp (disch := omega) only [go_sem, ↓reduceIte, dk, ↓lk] <;> with_reducible rfl); exact trivial)
    | rfl)
  refine awp_weak (Weak.nilrowF (i := 5) 33 (sz := 4) (by omega) (by omega) rfl) ?_
  refine awp_loop_at (X := Nat × List LX) (fun y => (frame 63 [(2, .ptr 0 0), (5, .row 7 y.2.length), (13, .data (.list (l.map eHd))), (14, .data (i64 l.length)), (15, .data (i64 y.1))])) (fun y => [(0, .box [.data (.int .i64 0), .data (.str []), .data (.str []), .nils]), (7, .row 33 4 (y.2.map eX))]) 8
    (fun y => y.1 ≤ l.length ∧ y.2.length ≤ y.1 ∧ (∀ k ∈ y.2, checkE k = 0 ∧ k.Bd 1099511627776) ∧ declGo [] l = declGo y.2 (l.drop y.1)) (fun y => l.length - y.1) (0, []) ⟨Nat.zero_le _, Nat.zero_le _, fun k (hk : k ∈ ([] : List LX)) => (by cases hk), rfl⟩ (Weak.v (by (simp [ConvF, lookV, Conv, ints, upd]; done)) (by (simp (disch := omega) only [TabSub, look, if_pos, if_neg, Obj.refsOK, refsOKs, AV.refsOK, decide_eq_true_eq, Bool.and_true, Bool.and_self, upd] ) <;> ((repeat' apply And.intro) <;> first | exact True.intro | omega | (simp; done) | rfl))) ?_
  rintro ⟨i, kids⟩ ⟨h1, h2, h3, h4⟩
  dsimp only at h1 h2 h3 h4 ⊢
  by_cases hi : i < l.length
  · rw [decl_drop hi] at h4
    have htx := ht _ (List.getElem_mem hi)
    generalize hy : l[i] = y at *
    have hk : (y.kind != 0) = !isK 0 y := rfl
    generalize isK 0 y = c at *
    cases c
    · rw [if_neg (by decide)] at h4
      repeat (first
        | (apply axJ; (focus ((with_reducible constructor) <;> rfl)))
        | (apply awT mixedOK hΓ (by kernel_rfl); (simp (disch := omega) only [go_sem, ↓reduceIte, dk, ↓lk, Int.reduceBEq, Int.reduceBNe, Bool.true_bne, Bool.false_bne, Bool.not_true, Bool.not_false, hy, hk, eHd_eq] <;> with_reducible rfl))
        | ((first | apply awR hΓ | apply awG | apply awH mixedOK hΓ rfl (by kernel_rfl) | apply ovE rfl); (simp (disch := omega) only [go_sem, ↓reduceIte, dk, ↓lk, Int.reduceBEq, Int.reduceBNe, Bool.true_bne, Bool.false_bne, Bool.not_true, Bool.not_false, hy, hk, eHd_eq] <;> with_reducible rfl); exact trivial)
        | rfl)
      exact ⟨(i + 1, kids), ⟨by dsimp only; omega, by dsimp only; omega, h3, h4⟩, by dsimp only; omega, Weak.w⟩
    · rw [if_pos rfl] at h4
      have e1 := g_parseP_eq (s := y.text) htx
      have hpf := @parse_form y.text
      generalize pParse y.text = p at *
      obtain ⟨x, a, e⟩ := p
      obtain ⟨p1, p2⟩ := hpf rfl
      dsimp only at h4
      rw [show ePr (x, a, e) = .tup [eX x, .int .i64 a, .int .i64 e] from rfl, eX_eq] at e1
      by_cases he : e = 0
      · subst he
        obtain ⟨q1, q2⟩ := p2 rfl
        rw [if_pos (by rfl)] at h4
        have e2 := g_anyDc_eq (l := kids) (x := x) (by omega) (fun z hz => (h3 z hz).2) q2
        have hks : kidStep kids x = if kids.any (eqX x) then kids else kids ++ [x] := rfl
        have hkl := kid_len kids x
        have hko := kid_ok (p := fun k => checkE k = 0 ∧ k.Bd 1099511627776) h3 ⟨q1, q2⟩
        rw [hks] at h4 hkl hko
        generalize kids.any (eqX x) = b at *
        cases b
        · rw [if_neg (by decide)] at h4 hkl hko
          have hm : (kids ++ [x]).map eX = kids.map eX ++ [.agg [.int .i64 x.kind, .str x.name, .str x.exc, .list (x.kids.map eX)]] := by rw [List.map_append, List.map_cons, List.map_nil, eX_eq]
          repeat (first
            | (apply axJ; (focus ((with_reducible constructor) <;> rfl)))
            | (apply awT mixedOK hΓ (by kernel_rfl); (simp (disch := omega) only [go_sem, ↓reduceIte, dk, ↓lk, Int.reduceBEq, Int.reduceBNe, Bool.true_bne, Bool.false_bne, Bool.not_true, Bool.not_false, hy, hk, e1, e2, eHd_eq] <;> with_reducible rfl))
            | ((first | apply awR hΓ | apply awG | apply awH mixedOK hΓ rfl (by kernel_rfl) | apply ovE rfl); (simp (disch := omega) only [go_sem, ↓reduceIte, dk, ↓lk, Int.reduceBEq, Int.reduceBNe, Bool.true_bne, Bool.false_bne, Bool.not_true, Bool.not_false, hy, hk, e1, e2, eHd_eq] <;> with_reducible rfl); exact trivial)
            | rfl)
          exact ⟨(i + 1, kids ++ [x]), ⟨by dsimp only; omega, by dsimp only; omega, hko, h4⟩, by dsimp only; omega, Weak.v (by (simp [ConvF, lookV, Conv, ints, hm]; done)) (by (simp (disch := omega) only [TabSub, look, if_pos, if_neg, Obj.refsOK, refsOKs, AV.refsOK, decide_eq_true_eq, Bool.and_true, Bool.and_self, hm] ) <;> ((repeat' apply And.intro) <;> first | exact True.intro | omega | (simp; done) | rfl))⟩
        · rw [if_pos rfl] at h4
          repeat (first
            | (apply axJ; (focus ((with_reducible constructor) <;> rfl)))
            | (apply awT mixedOK hΓ (by kernel_rfl); (simp (disch := omega) only [go_sem, ↓reduceIte, dk, ↓lk, Int.reduceBEq, Int.reduceBNe, Bool.true_bne, Bool.false_bne, Bool.not_true, Bool.not_false, hy, hk, e1, e2, eHd_eq] <;> with_reducible rfl))
            | ((first | apply awR hΓ | apply awG | apply awH mixedOK hΓ rfl (by kernel_rfl) | apply ovE rfl); (simp (disch := omega) only [go_sem, ↓reduceIte, dk, ↓lk, Int.reduceBEq, Int.reduceBNe, Bool.true_bne, Bool.false_bne, Bool.not_true, Bool.not_false, hy, hk, e1, e2, eHd_eq] <;> with_reducible rfl); exact trivial)
            | rfl)
          exact ⟨(i + 1, kids), ⟨by dsimp only; omega, by dsimp only; omega, h3, h4⟩, by dsimp only; omega, Weak.w⟩
      · obtain rfl := p1 he
        have hb : (e == 0) = false := by simpa using he
        have hb2 : (e != 0) = true := by simpa [bne] using he
        rw [if_neg (by rw [hb]; decide)] at h4
        rw [h4]
        (repeat (first | (apply axJ; (focus ((with_reducible constructor) <;> rfl))) | ((first | apply awR hΓ | apply awG | apply ovE rfl); (simp (disch := omega) only [go_sem, ↓reduceIte, dk, ↓lk, Int.reduceBEq, Int.reduceBNe, Bool.true_bne, Bool.false_bne, Bool.not_true, Bool.not_false, hy, hk, e1, hb2, eHd_eq] <;> with_reducible rfl); exact trivial) | rfl))
        (apply awp_lane3 (nst := false) (nst' := false) [false, false, false, false, true, false] mixedOK hΓ (n1 := 6) (by kernel_rfl) (by kernel_rfl); (focus (dsimp only [List.take_succ_cons, List.take_zero, Array.toList]; (repeat (first | (apply lane3_loud; (focus rfl); (focus rfl); (simp (disch := omega) only [go_sem, ↓reduceIte, dk, ↓lk, ↓ty_build33, Int.reduceBEq, Int.reduceBNe, Bool.true_bne, Bool.false_bne, Bool.not_true, Bool.not_false, look_upd] <;> with_reducible rfl); (focus (first | (simp (disch := omega) only [go_sem, ↓reduceIte, dk, ↓lk, ↓ty_build33, Int.reduceBEq, Int.reduceBNe, Bool.true_bne, Bool.false_bne, Bool.not_true, Bool.not_false, look_upd]; done) | (simp (disch := omega) only [go_sem, ↓reduceIte, dk, ↓lk, ↓ty_build33, Int.reduceBEq, Int.reduceBNe, Bool.true_bne, Bool.false_bne, Bool.not_true, Bool.not_false, look_upd]; omega)))) | (apply lane3_quiet; (simp (disch := omega) only [go_sem, ↓reduceIte, dk, ↓lk, ↓ty_build33, Int.reduceBEq, Int.reduceBNe, Bool.true_bne, Bool.false_bne, Bool.not_true, Bool.not_false, look_upd] <;> with_reducible rfl)))); exact lane3_nil)); (focus ((repeat' (first | exact True.intro | refine And.intro ?_ ?_)); all_goals (first | (left; decide) | (left; rfl) | (right; simp (disch := omega) only [go_sem, ↓reduceIte, dk, ↓lk, ↓ty_build33, Int.reduceBEq, Int.reduceBNe, Bool.true_bne, Bool.false_bne, Bool.not_true, Bool.not_false, look_upd]; try with_reducible rfl)))); (simp (disch := omega) only [go_sem, ↓reduceIte, dk, ↓lk, ↓ty_build33, Int.reduceBEq, Int.reduceBNe, Bool.true_bne, Bool.false_bne, Bool.not_true, Bool.not_false, look_upd] <;> with_reducible rfl))
        repeat (first
          | (apply axJ; (focus ((with_reducible constructor) <;> rfl)))
          | (apply awT mixedOK hΓ (by kernel_rfl); (simp (disch := omega) only [go_sem, ↓reduceIte, dk, ↓lk, Int.reduceBEq, Int.reduceBNe, Bool.true_bne, Bool.false_bne, Bool.not_true, Bool.not_false] <;> with_reducible rfl))
          | ((first | apply awR hΓ | apply awG | apply awH mixedOK hΓ rfl (by kernel_rfl) | apply ovE rfl); (simp (disch := omega) only [go_sem, ↓reduceIte, dk, ↓lk, Int.reduceBEq, Int.reduceBNe, Bool.true_bne, Bool.false_bne, Bool.not_true, Bool.not_false] <;> with_reducible rfl); exact trivial)
          | rfl)
        try rfl
  · have hi2 : i = l.length := by omega
    subst hi2
    rw [List.drop_length, declGo] at h4
    rw [h4]
    match kids, h2, h3 with
    | [], _, _ =>
      rw [show sumX [] = (x0, -1, 7) from rfl]
      have hn0 : (((0 : Nat) : Int) == 0) = true := rfl
      repeat (first
        | (apply axJ; (focus ((with_reducible constructor) <;> rfl)))
        | (apply awT mixedOK hΓ (by kernel_rfl); (simp (disch := omega) only [go_sem, ↓reduceIte, dk, ↓lk, Int.reduceBEq, Int.reduceBNe, Bool.true_bne, Bool.false_bne, Bool.not_true, Bool.not_false, ↓ty_build33, hn0] <;> with_reducible rfl))
        | ((first | apply awR hΓ | apply awG | apply awH mixedOK hΓ rfl (by kernel_rfl) | apply ovE rfl); (simp (disch := omega) only [go_sem, ↓reduceIte, dk, ↓lk, Int.reduceBEq, Int.reduceBNe, Bool.true_bne, Bool.false_bne, Bool.not_true, Bool.not_false, ↓ty_build33, hn0] <;> with_reducible rfl); exact trivial)
        | rfl)
      try rfl
    | [x], h2, h3 =>
      rw [show sumX [x] = (x, 0, 0) from rfl]
      have hn0 : (((1 : Nat) : Int) == 0) = false := rfl
      have hn1 : (((1 : Nat) : Int) == 1) = true := rfl
      have hl1 : ([x] : List LX).length = 1 := rfl
      have hx0 : ∀ h, ([x] : List LX)[0]'h = x := fun _ => rfl
      generalize [x] = kids at *
      repeat (first
        | (apply axJ; (focus ((with_reducible constructor) <;> rfl)))
        | (apply awT mixedOK hΓ (by kernel_rfl); (simp (disch := omega) only [go_sem, ↓reduceIte, dk, ↓lk, Int.reduceBEq, Int.reduceBNe, Bool.true_bne, Bool.false_bne, Bool.not_true, Bool.not_false, Int.reduceToNat, List.getElem?_cons_zero, List.getElem?_cons_succ, hn0, hn1, hl1, hx0, Int.reduceToNat] <;> with_reducible rfl))
        | ((first | apply awR hΓ | apply awG | apply awH mixedOK hΓ rfl (by kernel_rfl) | apply ovE rfl); (simp (disch := omega) only [go_sem, ↓reduceIte, dk, ↓lk, Int.reduceBEq, Int.reduceBNe, Bool.true_bne, Bool.false_bne, Bool.not_true, Bool.not_false, Int.reduceToNat, List.getElem?_cons_zero, List.getElem?_cons_succ, hn0, hn1, hl1, hx0, Int.reduceToNat] <;> with_reducible rfl); exact trivial)
        | rfl)
      simp only [ePr, eX_eq]
    | x :: y :: r, h2, h3 =>
      have hbd := and_bd h3 (by omega)
      have hs : sumX (x :: y :: r) = if checkE (.mk 2 [] [] (x :: y :: r)) == 0 then (.mk 2 [] [] (x :: y :: r), 0, 0) else (x0, -1, checkE (.mk 2 [] [] (x :: y :: r))) := rfl
      rw [hs]
      have e1 := g_checkP_eq hbd
      have hn0 : (((x :: y :: r).length : Int) == 0) = false := by rw [beq_eq_false_iff_ne, List.length_cons]; omega
      have hn1 : (((x :: y :: r).length : Int) == 1) = false := by rw [beq_eq_false_iff_ne, List.length_cons, List.length_cons]; omega
      simp only [lx_kind, lx_name, lx_exc, lx_kids] at e1
      generalize checkE (.mk 2 [] [] (x :: y :: r)) = e at *
      generalize x :: y :: r = kids at *
      by_cases he : e = 0
      · subst he
        repeat (first
          | (apply axJ; (focus ((with_reducible constructor) <;> rfl)))
          | (apply awT mixedOK hΓ (by kernel_rfl); (simp (disch := omega) only [go_sem, ↓reduceIte, dk, ↓lk, Int.reduceBEq, Int.reduceBNe, Bool.true_bne, Bool.false_bne, Bool.not_true, Bool.not_false, ↓ty_build33, hn0, hn1, e1] <;> with_reducible rfl))
          | ((first | apply awR hΓ | apply awG | apply awH mixedOK hΓ rfl (by kernel_rfl) | apply ovE rfl); (simp (disch := omega) only [go_sem, ↓reduceIte, dk, ↓lk, Int.reduceBEq, Int.reduceBNe, Bool.true_bne, Bool.false_bne, Bool.not_true, Bool.not_false, ↓ty_build33, hn0, hn1, e1] <;> with_reducible rfl); exact trivial)
          | rfl)
        rw [if_pos (by rfl)]
        simp only [ePr, eX_eq, lx_kind, lx_name, lx_exc, lx_kids]
      · have hb : (e == 0) = false := by simpa using he
        have hb2 : (e != 0) = true := by simpa [bne] using he
        rw [hb]
        repeat (first
          | (apply axJ; (focus ((with_reducible constructor) <;> rfl)))
          | (apply awT mixedOK hΓ (by kernel_rfl); (simp (disch := omega) only [go_sem, ↓reduceIte, dk, ↓lk, Int.reduceBEq, Int.reduceBNe, Bool.true_bne, Bool.false_bne, Bool.not_true, Bool.not_false, ↓ty_build33, hn0, hn1, e1, hb2] <;> with_reducible rfl))
          | ((first | apply awR hΓ | apply awG | apply awH mixedOK hΓ rfl (by kernel_rfl) | apply ovE rfl); (simp (disch := omega) only [go_sem, ↓reduceIte, dk, ↓lk, Int.reduceBEq, Int.reduceBNe, Bool.true_bne, Bool.false_bne, Bool.not_true, Bool.not_false, ↓ty_build33, hn0, hn1, e1, hb2] <;> with_reducible rfl); exact trivial)
          | rfl)
        try rfl
end Go.Ab
namespace Go.Ab
open Go Go.RowKit
theorem flat_scalar {l : List D} (h : l.all D.scalar = true) : flat l = l := by
  induction l with
  | nil => rfl
  | cons d l ih =>
    rw [List.all_cons, Bool.and_eq_true] at h
    rw [flat_cons, ih h.2]
    cases d <;> first | rfl | (exact absurd h.1 (by simp [D.scalar]))
theorem scalar_one {l : List D} (h : l.all D.scalar = true) : (∀ d ∈ l, d.cells.length = 1) ∧ ∀ d ∈ l, d.one = true := by
  rw [List.all_eq_true] at h
  refine ⟨fun d hd => ?_, fun d hd => ?_⟩
  · have := h d hd
    cases d <;> first | rfl | (exact absurd this (by simp [D.scalar]))
  · have := h d hd
    cases d <;> first | rfl | (exact absurd this (by simp [D.scalar]))
structure RowTurn (w w' : World) (e : TypeId) (v v' : Value) (xs : List Value) : Prop where
  own : ownsM w' 0 e 1 v' xs.length xs
  os : w'.os = w.os
  tape : w'.tape = w.tape
  output : w'.output = w.output
  size : w.heap.size ≤ w'.heap.size
  blk' : ∀ b, blk v' = some b → blk v = some b
  block : ∀ b, b < w.heap.size → blk v ≠ some b → w'.heap[b]? = w.heap[b]?
section
variable {P : Program} {f : FuncId} {fn : Func} {e : TypeId} {dom : List D → Prop} {out : List D → List D}
theorem row1_arg {c : Ctx} {l : List D} {θ : Nat → Value} {w : World} {vs : Array Value} (hsc : l.all D.scalar = true) (hsim : HSim c ⟨enumO 0 [.row e 1 l], 1⟩ θ w) (hvs : vs.size = 1)
    (hv : ∀ i (hi : i < [AV.row 0 l.length].length) u, vs[i]? = some u → VR ⟨enumO 0 [.row e 1 l], 1⟩ θ w (vis c ⟨enumO 0 [.row e 1 l], 1⟩ θ w) ([AV.row 0 l.length][i]) u) :
    vs = #[θ 0] ∧ ownsM w 0 e 1 (θ 0) l.length (l.map D.val) ∧ (∀ b, blk (θ 0) = some b → c.n0 ≤ b ∨ c.Init b) := by
  have hg : (⟨enumO 0 [.row e 1 l], 1⟩ : Heap).get 0 = some (.row e 1 l) := rfl
  have h0 := hv 0 (by simp) (vs[0]'(by omega)) (Array.getElem?_eq_getElem _)
  obtain ⟨he, _⟩ := row_val hsim h0 hg rfl
  have e1 : vs = #[vs[0]'(by omega)] := Array.ext hvs fun i i1 i2 => by
    match i, i2 with
    | 0, _ => rfl
  obtain ⟨h1, h2, h3, us, h4, h5, h6⟩ := hsim.objs 0 _ hg
  have hus : us = l.map D.val := by
    have hlen := h4.1
    apply List.ext_getElem?
    intro i
    by_cases hi : i < l.length
    · have hi2 : i < us.length := by omega
      have := h6 i (by rw [flat_scalar hsc]; exact hi) us[i] (List.getElem?_eq_getElem hi2)
      rw [List.getElem?_eq_getElem hi2, scalar_val (List.all_eq_true.1 (by rw [flat_scalar hsc]; exact hsc) _ (List.getElem_mem _)) this, List.getElem?_map, List.getElem?_eq_getElem hi]
      simp only [flat_scalar hsc, Option.map_some]
    · rw [List.getElem?_eq_none (by omega), List.getElem?_eq_none (by simp; omega)]
  rw [hus] at h4
  exact ⟨by rw [e1, he], h4, h5⟩
theorem loc_row1 (hf : P.funcs[f]? = some fn) (hname : (fn.name == "runtime.NumGoroutine") = false) (hb : fn.body.isNone = false)
    (hd : ∀ l, dom l → l.all D.scalar = true ∧ (out l).all D.scalar = true ∧ (out l).length = l.length)
    (h : ∀ l, dom l → ∀ (w : World) (v : Value), ownsM w 0 e 1 v l.length (l.map D.val) → Calls P f #[v] w fun ex w' => (∃ u, ex = .returned u) ∧ RowTurn w w' e v v ((out l).map D.val)) :
    LocOK P f (locSpec (fun l => [.row 0 l.length]) (fun l => [.row e 1 l]) dom (fun l => (.junk, [.row e 1 (out l)]))) := by
  intro xs os r os' hg _ c θ w vs hbase hsim hvs hvals
  unfold locSpec at hg
  split at hg
  · rename_i hh
    obtain ⟨h1, h2, h3⟩ := hh.choose_spec
    generalize hh.choose = l at h1 h2 h3 hg
    simp only [Option.some.injEq, Prod.mk.injEq] at hg
    obtain ⟨rfl, rfl⟩ := hg
    subst h1 h2
    obtain ⟨s1, s2, s3⟩ := hd l h3
    obtain ⟨e1, e2, e3⟩ := row1_arg s1 hsim hvs hvals
    rw [e1]
    refine ⟨⟨fn, hf, hname, hb⟩, (h l h3 w (θ 0) e2).mono ?_⟩
    rintro ex w' ⟨⟨u, rfl⟩, ht⟩
    obtain ⟨o1, o2⟩ := scalar_one s2
    have hg' : ∀ o x, (⟨enumO 0 [.row e 1 (out l)], 1⟩ : Heap).get o = some x → o = 0 ∧ x = .row e 1 (out l) := fun o x hx => by
      rw [get_enumO] at hx
      match o, hx with
      | 0, hx => exact ⟨rfl, by simpa using hx.symm⟩
      | n + 1, hx => simp at hx
    refine ⟨u, rfl, θ, ⟨Nat.le_trans hsim.size ht.size, fun o x hx => ?_, fun o o' x x' hx hx' _ _ hne => ?_⟩, .junk _, ⟨ht.os, ht.tape, ht.output, ht.size, fun b b1 b2 => ht.block b (Nat.lt_of_lt_of_le b1 hsim.size) fun hbl => ?_⟩, ?_⟩
    · obtain ⟨rfl, rfl⟩ := hg' o x hx
      refine ⟨by decide, o1, by rw [flat_scalar s2]; exact o2, (out l).map D.val, by have := ht.own; rwa [List.length_map] at this, e3, fun i hi u hu => ?_⟩
      rw [flat_scalar s2] at hi
      simp only [flat_scalar s2]
      rw [List.getElem?_map, List.getElem?_eq_getElem hi] at hu
      simp only [Option.map_some, Option.some.injEq] at hu
      subst hu
      exact scalar_reads (List.all_eq_true.1 s2 _ (List.getElem_mem hi))
    · exact absurd ((hg' o x hx).1.trans (hg' o' x' hx').1.symm) hne
    · rcases e3 b hbl with h4 | h4
      · omega
      · exact b2 h4
    · intro o x' _ hx
      obtain ⟨rfl, rfl⟩ := hg' o x' hx
      exact ⟨.row e 1 l, rfl, by simp [Obj.evo, s3], fun _ => rfl⟩
  · cases hg
theorem loc_row1c (hf : P.funcs[f]? = some fn) (hname : (fn.name == "runtime.NumGoroutine") = false) (hb : fn.body.isNone = false)
    (hd : ∀ l, dom l → l.all D.scalar = true ∧ (out l).all D.scalar = true)
    (h : ∀ l, dom l → ∀ (w : World) (v : Value), ownsM w 0 e 1 v l.length (l.map D.val) → Calls P f #[v] w fun ex w' => ∃ v', ex = .returned v' ∧ RowTurn w w' e v v' ((out l).map D.val)) :
    LocOK P f (locSpec (fun l => [.row 0 l.length]) (fun l => [.row e 1 l]) dom (fun l => (.row 1 (out l).length, [.dead, .row e 1 (out l)]))) := by
  intro xs os r os' hg _ c θ w vs hbase hsim hvs hvals
  unfold locSpec at hg
  split at hg
  · rename_i hh
    obtain ⟨h1, h2, h3⟩ := hh.choose_spec
    generalize hh.choose = l at h1 h2 h3 hg
    simp only [Option.some.injEq, Prod.mk.injEq] at hg
    obtain ⟨rfl, rfl⟩ := hg
    subst h1 h2
    obtain ⟨s1, s2⟩ := hd l h3
    obtain ⟨e1, e2, e3⟩ := row1_arg s1 hsim hvs hvals
    rw [e1]
    refine ⟨⟨fn, hf, hname, hb⟩, (h l h3 w (θ 0) e2).mono ?_⟩
    rintro ex w' ⟨v', rfl, ht⟩
    obtain ⟨o1, o2⟩ := scalar_one s2
    have hown := ht.own
    rw [List.length_map] at hown
    have hnr : ¬ (⟨enumO 0 [.row e 1 l], 1⟩ : Heap).ref 1 := by
      rintro (h | h)
      · exact absurd h (Nat.lt_irrefl _)
      · rw [get_enumO] at h
        simp at h
    have hset : ((⟨enumO 0 [.row e 1 l], 1⟩ : Heap).set 0 .dead).set 1 (.row e 1 (out l)) = ⟨enumO 0 [.dead, .row e 1 (out l)], 1⟩ := rfl
    obtain ⟨q1, _, q3⟩ := hsim.shift (w' := w') (o := 0) (k := 1) (x0 := .row e 1 l) (x := .row e 1 (out l)) (val := v') hnr rfl rfl ht.block ht.size ht.blk' fun hvr => by
      refine ⟨by decide, o1, by rw [flat_scalar s2]; exact o2, (out l).map D.val, hown, fun b hb2 => e3 b (ht.blk' b hb2), fun i hi u hu => ?_⟩
      rw [flat_scalar s2] at hi
      simp only [flat_scalar s2]
      rw [List.getElem?_map, List.getElem?_eq_getElem hi] at hu
      simp only [Option.map_some, Option.some.injEq] at hu
      subst hu
      exact scalar_reads (List.all_eq_true.1 s2 _ (List.getElem_mem hi))
    replace q1 : HSim c ⟨enumO 0 [.dead, .row e 1 (out l)], 1⟩ (updθ θ 1 v') w' := q1
    replace q3 : HLe ⟨enumO 0 [.row e 1 l], 1⟩ θ ⟨enumO 0 [.dead, .row e 1 (out l)], 1⟩ (updθ θ 1 v') := q3
    have hsl : ∃ ao cap, v' = .slice ao (out l).length cap := by
      rcases hown.2 with ⟨h1, h2⟩ | ⟨g, cap, cur, h1, _⟩
      · exact ⟨none, 0, by rw [h1, h2]⟩
      · exact ⟨_, _, h1⟩
    refine ⟨v', rfl, updθ θ 1 v', q1.bump (n := 2) (Nat.le_succ 1), ?_, ⟨ht.os, ht.tape, ht.output, ht.size, fun b b1 b2 => ht.block b (Nat.lt_of_lt_of_le b1 hsim.size) fun hbl => ?_⟩, ?_⟩
    · refine .row 1 _ _ (by obtain ⟨ao, cap, rfl⟩ := hsl; cases ao <;> rfl) (.inl (Nat.lt_succ_self 1)) fun x m hx hm => ?_
      rw [get_enumO] at hx
      simp only [List.getElem?_cons_succ, List.getElem?_cons_zero, Option.some.injEq] at hx
      subst hx
      simp only [Obj.rlen, Option.some.injEq] at hm
      subst hm
      exact ⟨Nat.le_refl _, fun _ => by simp [updθ]⟩
    · rcases e3 b hbl with h4 | h4
      · omega
      · exact b2 h4
    · intro o x' ho hx
      exact q3.evo (Nat.le_refl 1) o x' ho hx
  · cases hg
end
end Go.Ab
