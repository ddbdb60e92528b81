/-
  One text of the proof (own work): contracts of functions of the program, by the abstract machine.
-/
import Derived.Test.YtapnigckcnknoaaGreatDoorX12
import Derived.Test.YtapnigckcnknoaaGreatDoorX26
import Derived.Test.YtapnigckcnknoaaGreatDoorX27
import Derived.Test.YtapnigckcnknoaaGreatDoorX15
set_option linter.unusedVariables false
set_option linter.unusedSimpArgs false
namespace Go.Ab
open Go Go.RowKit Go.Proofs
set_option maxRecDepth 100000
set_option maxHeartbeats 40000000
theorem loop_read {fs : List Fl} {us : List Mc} : ∀ (k : Nat) (X : List Wd) (rd : List Sp) (A : List Wd) (R : List Sp), loopG fs us k X rd = ((A, R), 0) → ∀ s ∈ R, s ∈ rd ∨ (bodyB fs s).2 = 0 := by
  intro k
  induction k with
  | zero =>
    intro X rd A R h s hs
    rw [loopG_eq] at h
    cases hf : findG us X with
    | none =>
      rw [hf] at h
      simp only [Prod.mk.injEq, and_true] at h
      obtain ⟨rfl, rfl⟩ := h
      exact .inl hs
    | some q =>
      rw [hf] at h
      simp at h
  | succ k ih =>
    intro X rd A R h s hs
    rw [loopG_eq] at h
    cases hf : findG us X with
    | none =>
      rw [hf] at h
      simp only [Prod.mk.injEq, and_true] at h
      obtain ⟨rfl, rfl⟩ := h
      exact .inl hs
    | some q =>
      obtain ⟨i, m⟩ := q
      rw [hf] at h
      dsimp only at h
      split at h
      · rename_i h0
        have h0' : (replG fs m X i).2 = 0 := by simpa using h0
        obtain ⟨a, r, b, hR, _⟩ := repl_ok h0'
        rcases ih _ _ _ _ h s hs with h1 | h1
        · rcases List.mem_append.1 h1 with h1 | h1
          · exact .inl h1
          · simp only [List.mem_singleton] at h1
            rw [h1]
            exact .inr (by rw [hR.body])
        · exact .inr h1
      · rename_i h0
        simp only [Prod.mk.injEq] at h
        exact absurd (by simpa using h.2) h0
def inM (m : Mc) (p : Bs) (n : Int) : Bool := (m.body.1 == p && decide (m.body.2.1 ≤ n)) && decide (n < m.body.2.2)
theorem line_rng {fs : List Fl} {us : List Mc} {l : List Tk} (h : (lineG fs us l).2 = 0) : ∀ s ∈ (lineG fs us l).1.2, (0 ≤ s.2.1 ∧ s.2.1 < s.2.2 ∧ s.2.2 ≤ 1024) ∧ ∀ n, s.2.1 ≤ n → n < s.2.2 → us.any (fun m => inM m s.1 n) = true := by
  intro s hs
  have hcov : ∀ n, s.2.1 ≤ n → n < s.2.2 → Cov (lineG fs us l).1.2 s.1 n := fun n k1 k2 => ⟨s, hs, rfl, k1, k2⟩
  obtain ⟨A, R, h1, h2, _⟩ := line_ok h
  rw [h2] at hs
  dsimp only at hs
  have hne := (setG_ok R).1.ne s hs
  have hb : ∀ n, s.2.1 ≤ n → n < s.2.2 → 0 ≤ n ∧ n < 1024 := fun n k1 k2 => by
    obtain ⟨t, ht, _, h4, h5⟩ := ((setG_ok R).2 s.1 n).1 ⟨s, hs, rfl, k1, k2⟩
    rcases loop_read _ _ _ _ _ h1 t ht with ht | ht
    · cases ht
    · have := body_rng ht
      omega
  refine ⟨⟨(hb s.2.1 (Int.le_refl _) hne).1, hne, by have := hb (s.2.2 - 1) (by omega) (by omega); omega⟩, fun n k1 k2 => ?_⟩
  obtain ⟨m, hm, q1, q2, q3⟩ := line_cov h (hcov n k1 k2)
  rw [List.any_eq_true]
  refine ⟨m, hm, ?_⟩
  unfold inM
  simp only [Bool.and_eq_true, beq_iff_eq, decide_eq_true_eq]
  exact ⟨⟨q1, q2⟩, q3⟩
noncomputable def g_ur1 : List D → Option D := encSpec (fun x : Mc × Bs × Int × Int × Int => [eMc x.1, .ref [.str x.2.1, i64 x.2.2.1, i64 x.2.2.2.1], .ref [i64 x.2.2.2.2]]) (fun x : Mc × Bs × Int × Int × Int => True) (fun x : Mc × Bs × Int × Int × Int => .bool (inM x.1 x.2.1 x.2.2.2.2))
theorem g_ur1_eq {m : Mc} {s1 : Bs} {s2 : Int} {s3 : Int} {n : Int} (hd : True) : g_ur1 [eMc m, .ref [.str s1, .int .i64 s2, .int .i64 s3], .ref [.int .i64 n]] = some (.bool (inM m s1 n)) := encSpec_eq (x := (m, s1, s2, s3, n)) hd fun y hy => by
    obtain ⟨y0, y1, y2, y3, y4⟩ := y; simp only [List.cons.injEq, and_true, true_and, D.str.injEq, D.int.injEq, D.list.injEq, D.bool.injEq, D.agg.injEq, D.clo.injEq, Int.natCast_inj, inj_ie, D.ref.injEq, eU_e, eTk_ie, eTk_e, eFl_ie, eSp_ie, eSp_e, eMc_e, eMc_ie, and_assoc] at hy
    (try obtain ⟨rfl, rfl, rfl, rfl, rfl⟩ := hy)
    (try subst_vars)
    rfl
theorem f_ur1_ok : PureOK Tryz.prog 27 true g_ur1 := by
  have hΓ := Γ0_ok
  refine pure_enc (n := 25) (rs := [.tmp 4]) Tryz.func27 (by kernel_rfl) rfl (by kernel_rfl) (by kernel_rfl) ?_
  rintro ⟨m, s1, s2, s3, n⟩ hd
  (try dsimp only at hd ⊢)
  refine ⟨fun _ => by (repeat (first | exact .int _ _ | exact .bool _ | exact .str _ | (refine .tup _ (fun d hd => ?_); simp only [List.mem_cons, List.not_mem_nil, or_false] at hd; rcases hd with rfl | hd))), fun k hz0 => ?_⟩
  obtain ⟨m1, m2, m3, m4, m5⟩ := m
  rw [eMc_eq]
  unfold inM
  dsimp only
  rw [start_frame (by simp)]; simp only [enumV, go_sem, emptyH]
  cases h1 : (m3 == s1)
  · repeat (first
    | (apply axJ; (focus ((with_reducible constructor) <;> rfl)))
    | (apply awT mixedOK hΓ (by kernel_rfl); (simp (disch := omega) only [go_sem, ↓reduceIte, dk, ↓lk, Int.reduceBEq, Int.reduceBNe, Bool.true_bne, Bool.false_bne, Bool.not_true, Bool.not_false, h1] <;> with_reducible rfl))
    | ((first | apply awR hΓ | apply awG | apply awH mixedOK hΓ rfl (by kernel_rfl) | apply ovE rfl); (simp (disch := omega) only [go_sem, ↓reduceIte, dk, ↓lk, Int.reduceBEq, Int.reduceBNe, Bool.true_bne, Bool.false_bne, Bool.not_true, Bool.not_false, h1] <;> with_reducible rfl); exact trivial)
    | rfl)
    try rfl
  cases h2 : decide (m4 ≤ n)
  · repeat (first
    | (apply axJ; (focus ((with_reducible constructor) <;> rfl)))
    | (apply awT mixedOK hΓ (by kernel_rfl); (simp (disch := omega) only [go_sem, ↓reduceIte, dk, ↓lk, Int.reduceBEq, Int.reduceBNe, Bool.true_bne, Bool.false_bne, Bool.not_true, Bool.not_false, h1, h2] <;> with_reducible rfl))
    | ((first | apply awR hΓ | apply awG | apply awH mixedOK hΓ rfl (by kernel_rfl) | apply ovE rfl); (simp (disch := omega) only [go_sem, ↓reduceIte, dk, ↓lk, Int.reduceBEq, Int.reduceBNe, Bool.true_bne, Bool.false_bne, Bool.not_true, Bool.not_false, h1, h2] <;> with_reducible rfl); exact trivial)
    | rfl)
    try rfl
  cases h3 : decide (n < m5)
  · repeat (first
    | (apply axJ; (focus ((with_reducible constructor) <;> rfl)))
    | (apply awT mixedOK hΓ (by kernel_rfl); (simp (disch := omega) only [go_sem, ↓reduceIte, dk, ↓lk, Int.reduceBEq, Int.reduceBNe, Bool.true_bne, Bool.false_bne, Bool.not_true, Bool.not_false, h1, h2, h3] <;> with_reducible rfl))
    | ((first | apply awR hΓ | apply awG | apply awH mixedOK hΓ rfl (by kernel_rfl) | apply ovE rfl); (simp (disch := omega) only [go_sem, ↓reduceIte, dk, ↓lk, Int.reduceBEq, Int.reduceBNe, Bool.true_bne, Bool.false_bne, Bool.not_true, Bool.not_false, h1, h2, h3] <;> with_reducible rfl); exact trivial)
    | rfl)
    try rfl
  · repeat (first
    | (apply axJ; (focus ((with_reducible constructor) <;> rfl)))
    | (apply awT mixedOK hΓ (by kernel_rfl); (simp (disch := omega) only [go_sem, ↓reduceIte, dk, ↓lk, Int.reduceBEq, Int.reduceBNe, Bool.true_bne, Bool.false_bne, Bool.not_true, Bool.not_false, h1, h2, h3] <;> with_reducible rfl))
    | ((first | apply awR hΓ | apply awG | apply awH mixedOK hΓ rfl (by kernel_rfl) | apply ovE rfl); (simp (disch := omega) only [go_sem, ↓reduceIte, dk, ↓lk, Int.reduceBEq, Int.reduceBNe, Bool.true_bne, Bool.false_bne, Bool.not_true, Bool.not_false, h1, h2, h3] <;> with_reducible rfl); exact trivial)
    | rfl)
    try rfl
noncomputable def g_anyUr : List D → Option D := encSpec (fun y : List Mc × Sp × Int => [.list (y.1.map eMc), .clo 27 [.ref [.str y.2.1.1, i64 y.2.1.2.1, i64 y.2.1.2.2], .ref [i64 y.2.2]]]) (fun y => y.1.length ≤ 1099511627776) (fun y => .bool (y.1.any fun m : Mc => inM m y.2.1.1 y.2.2))
theorem f_anyUr_ok : PureOK Tryz.prog 25 true g_anyUr := by
  refine pure_union (X := Sp × Int) (G := fun w => gAnyD eMc (fun _ => True) 27 [.ref [.str w.1.1, i64 w.1.2.1, i64 w.1.2.2], .ref [i64 w.2]] (fun m => inM m w.1.1 w.2)) (fun w => f_anyMc_ok f_ur1_ok fun y _ => g_ur1_eq (m := y) (s1 := w.1.1) (s2 := w.1.2.1) (s3 := w.1.2.2) (n := w.2) trivial) fun ds d hd => ?_
  obtain ⟨⟨l, w⟩, rfl, h1, rfl⟩ := encSpec_some hd
  exact ⟨w, gAnyD_eq eMc_inj h1 (fun _ _ => trivial)⟩
theorem g_anyUr_eq {l : List Mc} {s1 : Bs} {s2 s3 n : Int} (h1 : l.length ≤ 1099511627776) : g_anyUr [.list (l.map eMc), .clo 27 [.ref [.str s1, .int .i64 s2, .int .i64 s3], .ref [.int .i64 n]]] = some (.bool (l.any fun m : Mc => inM m s1 n)) := encSpec_eq (x := (l, (s1, s2, s3), n)) h1 fun y hy => by
  obtain ⟨y1, ⟨y2, y3, y4⟩, y5⟩ := y
  simp only [List.cons.injEq, and_true, D.list.injEq, D.clo.injEq, D.ref.injEq, D.str.injEq, D.int.injEq, true_and, eMc_ie, and_assoc] at hy
  obtain ⟨rfl, rfl, rfl, rfl, rfl⟩ := hy
  rfl
theorem few3Go_p {z : Int} : ∀ {l : List Fl} {n : Int}, few3Go z n l = true → ∀ f ∈ l, f.1.length ≤ 300
  | [], _, _, f, hf => by cases hf
  | x :: r, n, h, f, hf => by
    rw [few3Go] at h
    split at h
    · cases h
    · rename_i hc
      simp only [Bool.or_eq_true, decide_eq_true_eq, not_or, Int.not_lt] at hc
      rcases List.mem_cons.1 hf with rfl | hf
      · omega
      · exact few3Go_p h f hf
theorem few07_p {fs : List Fl} {us : List Mc} {l : List Tk} {tx : Bs} (h : few07 fs us l tx = true) : ∀ f ∈ fs, f.1.length ≤ 300 := by
  unfold few07 at h
  simp only [Bool.and_eq_true, decide_eq_true_eq] at h
  have h1 := h.1.1.1
  unfold few3 at h1
  split at h1
  · cases h1
  · exact few3Go_p h1
noncomputable def g_law7u : List D → Option D := encSpec (fun x : (List Fl) × (List Mc) × (List Tk) × Bs × Int × Bs => [.agg [.list (x.1.map eFl), .list (x.2.1.map eMc), .list (x.2.2.1.map eTk), .str x.2.2.2.1, i64 x.2.2.2.2.1, .str x.2.2.2.2.2]]) (fun x : (List Fl) × (List Mc) × (List Tk) × Bs × Int × Bs => (x.1.length ≤ 1099511627776 ∧ ∀ f ∈ x.1, f.2.length ≤ 1099511627776) ∧ (x.2.1.length ≤ 1099511627776 ∧ ∀ m ∈ x.2.1, m.params.length ≤ 1099511627776) ∧ x.2.2.1.length ≤ 1099511627776 ∧ x.2.2.2.1.length ≤ 1099511627776) (fun x : (List Fl) × (List Mc) × (List Tk) × Bs × Int × Bs => .bool true)
theorem f_law7u_ok : PureOK Tryz.prog 8 true g_law7u := by
  have hΓ := Γp f_wk07_ok (Γp f_fewC_ok (Γp f_unit07_ok (Γp f_lineP7_ok (Γp f_anyUr_ok (Γp f_allVR_ok (Γp f_replR3_ok (Γp f_hasLn_ok (Γp f_sameT_ok (Γp f_sameL_ok (Γn))))))))))
  refine pure_enc (n := 102) (rs := [.tmp 2]) Tryz.func8 (by kernel_rfl) rfl (by kernel_rfl) (by kernel_rfl) ?_
  rintro ⟨fs, us, l, lp, ln, tx⟩ hd
  (try dsimp only at hd ⊢)
  refine ⟨fun _ => by (repeat (first | exact .int _ _ | exact .bool _ | exact .str _ | (refine .tup _ (fun d hd => ?_); simp only [List.mem_cons, List.not_mem_nil, or_false] at hd; rcases hd with rfl | hd))), fun k hz0 => ?_⟩
  have hlp := hd.2.2.2
  have e0 := g_wk07_eq
  have e1 := g_fewC_eq (fs := fs) (us := us) (l := l) (lp := lp) (ln := ln) (tx := tx) ⟨hd.1, hd.2.1, hd.2.2.1⟩
  have hfp := @few07_p fs us l tx
  have e2 := g_unit07_eq (fs := fs) (us := us) (l := l) (lp := lp) (ln := ln) (tx := tx) trivial
  rw [eU_eq] at e2
  have hf := @few07_d fs us l tx
  generalize few07 fs us l tx = c at *
  rw [start_frame (by simp)]; simp only [enumV, go_sem, emptyH]
  cases c
  · repeat (first
    | (apply axJ; (focus ((with_reducible constructor) <;> rfl)))
    | (apply awT mixedOK hΓ (by kernel_rfl); (simp (disch := omega) only [go_sem, ↓reduceIte, dk, ↓lk, Int.reduceBEq, Int.reduceBNe, Bool.true_bne, Bool.false_bne, Bool.not_true, Bool.not_false, e0, e1] <;> with_reducible rfl))
    | ((first | apply awR hΓ | apply awG | apply awH mixedOK hΓ rfl (by kernel_rfl) | apply ovE rfl); (simp (disch := omega) only [go_sem, ↓reduceIte, dk, ↓lk, Int.reduceBEq, Int.reduceBNe, Bool.true_bne, Bool.false_bne, Bool.not_true, Bool.not_false, e0, e1] <;> with_reducible rfl); exact trivial)
    | rfl)
    try rfl
  obtain ⟨⟨f1, f2⟩, ⟨f3, f4⟩, ⟨f5, f6⟩, f7⟩ := hf rfl
  replace hfp := hfp rfl
  have e3 := g_lineP7_eq (fs := fs) (us := us) (l := l) ⟨⟨⟨by omega, fun f hf => by have := f2 f hf; omega⟩, by omega, fun m hm => by have := f4 m hm; omega⟩, by omega, fun t ht => by have := f6 t ht; omega⟩
  rw [eU_eq] at e3
  unfold eLR at e3
  have hlen := lineG_len (fs := fs) (us := us) (l := l)
  have hrng := @line_rng fs us l
  have hval := @line_valid fs us l
  have htl := @line_tlen fs us l (fun t ht => by have := f6 t ht; omega)
  have herr := @line_err fs us l
  have hunr := @line_unread fs us l lp ln tx
  generalize lineG fs us l = L at *
  obtain ⟨⟨la, lb⟩, le⟩ := L
  dsimp only at hlen hrng hval htl herr hunr e3
  repeat (first
    | (apply axJ; (focus ((with_reducible constructor) <;> rfl)))
    | (apply awT mixedOK hΓ (by kernel_rfl); (simp (disch := omega) only [go_sem, ↓reduceIte, dk, ↓lk, Int.reduceBEq, Int.reduceBNe, Bool.true_bne, Bool.false_bne, Bool.not_true, Bool.not_false, e0, e1] <;> with_reducible rfl))
    | ((first | apply awR hΓ | apply awG | apply awH mixedOK hΓ rfl (by kernel_rfl) | apply ovE rfl); (simp (disch := omega) only [go_sem, ↓reduceIte, dk, ↓lk, Int.reduceBEq, Int.reduceBNe, Bool.true_bne, Bool.false_bne, Bool.not_true, Bool.not_false, e0, e1] <;> with_reducible rfl); exact trivial)
    | rfl)
  (apply awp_regf mixedOK hΓ (by kernel_rfl); (simp (disch := omega) only [go_sem, ↓reduceIte, dk, ↓lk, Int.reduceBEq, Int.reduceBNe, Bool.true_bne, Bool.false_bne, Bool.not_true, Bool.not_false, e2, e3] <;> with_reducible rfl); (simp only [go_sem] <;> with_reducible rfl))
  by_cases hle : le = 0
  case neg =>
    have hle2 : (le != 0) = true := by simpa using hle
    have h := herr hle
    simp only [Prod.mk.injEq] at h
    obtain ⟨rfl, rfl⟩ := h
    repeat (first
      | (apply axJ; (focus ((with_reducible constructor) <;> rfl)))
      | (apply awT mixedOK hΓ (by kernel_rfl); (simp (disch := omega) only [go_sem, ↓reduceIte, dk, ↓lk, Int.reduceBEq, Int.reduceBNe, Bool.true_bne, Bool.false_bne, Bool.not_true, Bool.not_false, hle2, List.map_nil, List.length_nil] <;> with_reducible rfl))
      | ((first | apply awR hΓ | apply awG | apply awH mixedOK hΓ rfl (by kernel_rfl) | apply ovE rfl); (simp (disch := omega) only [go_sem, ↓reduceIte, dk, ↓lk, Int.reduceBEq, Int.reduceBNe, Bool.true_bne, Bool.false_bne, Bool.not_true, Bool.not_false, hle2, List.map_nil, List.length_nil] <;> with_reducible rfl); exact trivial)
      | rfl)
    try rfl
  subst hle
  repeat (first
    | (apply axJ; (focus ((with_reducible constructor) <;> rfl)))
    | (apply awT mixedOK hΓ (by kernel_rfl); (simp (disch := omega) only [go_sem, ↓reduceIte, dk, ↓lk, Int.reduceBEq, Int.reduceBNe, Bool.true_bne, Bool.false_bne, Bool.not_true, Bool.not_false] <;> with_reducible rfl))
    | ((first | apply awR hΓ | apply awG | apply awH mixedOK hΓ rfl (by kernel_rfl) | apply ovE rfl); (simp (disch := omega) only [go_sem, ↓reduceIte, dk, ↓lk, Int.reduceBEq, Int.reduceBNe, Bool.true_bne, Bool.false_bne, Bool.not_true, Bool.not_false] <;> with_reducible rfl); exact trivial)
    | rfl)
  refine awp_loop_at (X := Nat) (fun i => (frame 102 [(1, .ptr 0 0), (3, .data (.list (la.map eTk))), (4, .data (.list (lb.map eSp))), (38, .data (.list (lb.map eSp))), (39, .data (i64 lb.length)), (40, .data (i64 i))])) (fun _ => [(0, .box [.data (.list (fs.map eFl)), .data (.list (us.map eMc)), .data (.list (l.map eTk)), .data (.str lp), .data (i64 ln), .data (.str tx)])]) 30
    (fun i => i ≤ lb.length) (fun i => lb.length - i) 0 (Nat.zero_le _) (Weak.w) ?_
  rintro i hi
  (try dsimp only at hi ⊢)
  by_cases hi2 : i < lb.length
  · obtain ⟨⟨r1, r2, r3⟩, r4⟩ := hrng rfl lb[i] (List.getElem_mem hi2)
    generalize hy : lb[i] = y at *
    obtain ⟨s1, s2, s3⟩ := y
    dsimp only at r1 r2 r3 r4
    repeat (first
      | (apply axJ; (focus ((with_reducible constructor) <;> rfl)))
      | (apply awT mixedOK hΓ (by kernel_rfl); (simp (disch := omega) only [go_sem, ↓reduceIte, dk, ↓lk, Int.reduceBEq, Int.reduceBNe, Bool.true_bne, Bool.false_bne, Bool.not_true, Bool.not_false, hy] <;> with_reducible rfl))
      | ((first | apply awR hΓ | apply awG | apply awH mixedOK hΓ rfl (by kernel_rfl) | apply ovE rfl); (simp (disch := omega) only [go_sem, ↓reduceIte, dk, ↓lk, Int.reduceBEq, Int.reduceBNe, Bool.true_bne, Bool.false_bne, Bool.not_true, Bool.not_false, hy] <;> with_reducible rfl); exact trivial)
      | rfl)
    refine awp_loop_at (X := Nat) (fun j => (frame 102 [(1, .ptr 0 0), (3, .data (.list (la.map eTk))), (4, .data (.list (lb.map eSp))), (7, .ptr 1 0), (8, .ptr 2 0), (38, .data (.list (lb.map eSp))), (39, .data (i64 lb.length)), (40, .data (i64 i))])) (fun j => [(0, .box [.data (.list (fs.map eFl)), .data (.list (us.map eMc)), .data (.list (l.map eTk)), .data (.str lp), .data (i64 ln), .data (.str tx)]), (1, .box [.data (.str s1), .data (i64 s2), .data (i64 s3)]), (2, .box [.data (i64 (s2 + j))])]) 3
      (fun j => s2 + j ≤ s3) (fun j => (s3 - s2).toNat - j) 0 (by omega)
      (Weak.trans (s2 := (frame 102 [(1, .ptr 0 0), (3, .data (.list (la.map eTk))), (4, .data (.list (lb.map eSp))), (7, .ptr 33 0), (8, .ptr 37 0), (38, .data (.list (lb.map eSp))), (39, .data (i64 lb.length)), (40, .data (i64 i))])) (H2 := ⟨[(0, .box [.data (.list (fs.map eFl)), .data (.list (us.map eMc)), .data (.list (l.map eTk)), .data (.str lp), .data (i64 ln), .data (.str tx)]), (33, .box [.data (.str s1), .data (i64 s2), .data (i64 s3)]), (37, .box [.data (i64 (s2 + ((0 : Nat) : Int)))])], 38⟩) (Weak.v (by (simp [ConvF, lookV, Conv, ints, Int.natCast_zero, Int.add_zero]; done)) (by (simp (disch := omega) only [TabSub, look, if_pos, if_neg, Obj.refsOK, refsOKs, AV.refsOK, decide_eq_true_eq, Bool.and_true, Bool.and_self, Int.natCast_zero, Int.add_zero] ) <;> ((repeat' apply And.intro) <;> first | exact True.intro | omega | (simp; done) | rfl))) (Weak.packd (objs := [.box [.data (.list (fs.map eFl)), .data (.list (us.map eMc)), .data (.list (l.map eTk)), .data (.str lp), .data (i64 ln), .data (.str tx)], .box [.data (.str s1), .data (i64 s2), .data (i64 s3)], .box [.data (i64 (s2 + ((0 : Nat) : Int)))]]) (fp := [0, 33, 37]) rfl rfl (by intro q hq; omega) rfl rfl)) ?_
    rintro j hj
    (try dsimp only at hj ⊢)
    by_cases hj2 : s2 + j < s3
    · have e5 := g_anyUr_eq (l := us) (s1 := s1) (s2 := s2) (s3 := s3) (n := s2 + j) (by omega)
      rw [r4 (s2 + j) (by omega) hj2] at e5
      have hd1 : decide (s2 + (j : Int) < s3) = true := decide_eq_true hj2
      repeat (first
        | (apply axJ; (focus ((with_reducible constructor) <;> rfl)))
        | (apply awT mixedOK hΓ (by kernel_rfl); (simp (disch := omega) only [go_sem, ↓reduceIte, dk, ↓lk, Int.reduceBEq, Int.reduceBNe, Bool.true_bne, Bool.false_bne, Bool.not_true, Bool.not_false, hd1, e5] <;> with_reducible rfl))
        | ((first | apply awR hΓ | apply awG | apply awH mixedOK hΓ rfl (by kernel_rfl) | apply ovE rfl); (simp (disch := omega) only [go_sem, ↓reduceIte, dk, ↓lk, Int.reduceBEq, Int.reduceBNe, Bool.true_bne, Bool.false_bne, Bool.not_true, Bool.not_false, hd1, e5] <;> with_reducible rfl); exact trivial)
        | rfl)
      refine ⟨j + 1, by omega, by omega, ?_⟩
      exact Weak.trans (s2 := (frame 102 [(1, .ptr 0 0), (3, .data (.list (la.map eTk))), (4, .data (.list (lb.map eSp))), (7, .ptr 1 0), (8, .ptr 13 0), (38, .data (.list (lb.map eSp))), (39, .data (i64 lb.length)), (40, .data (i64 i))])) (H2 := ⟨[(0, .box [.data (.list (fs.map eFl)), .data (.list (us.map eMc)), .data (.list (l.map eTk)), .data (.str lp), .data (i64 ln), .data (.str tx)]), (1, .box [.data (.str s1), .data (i64 s2), .data (i64 s3)]), (13, .box [.data (i64 (s2 + ((j + 1 : Nat) : Int)))])], 18⟩) (Weak.v (by (simp [ConvF, lookV, Conv, ints, Int.natCast_add, Int.natCast_one, Int.add_assoc]; done)) (by (simp (disch := omega) only [TabSub, look, if_pos, if_neg, Obj.refsOK, refsOKs, AV.refsOK, decide_eq_true_eq, Bool.and_true, Bool.and_self, Int.natCast_add, Int.natCast_one, Int.add_assoc] ) <;> ((repeat' apply And.intro) <;> first | exact True.intro | omega | (simp; done) | rfl))) (Weak.packd (objs := [.box [.data (.list (fs.map eFl)), .data (.list (us.map eMc)), .data (.list (l.map eTk)), .data (.str lp), .data (i64 ln), .data (.str tx)], .box [.data (.str s1), .data (i64 s2), .data (i64 s3)], .box [.data (i64 (s2 + ((j + 1 : Nat) : Int)))]]) (fp := [0, 1, 13]) rfl rfl (by intro q hq; omega) rfl rfl)
    · have hd1 : decide (s2 + (j : Int) < s3) = false := decide_eq_false hj2
      repeat (first
        | (apply axJ; (focus ((with_reducible constructor) <;> rfl)))
        | (apply awT mixedOK hΓ (by kernel_rfl); (simp (disch := omega) only [go_sem, ↓reduceIte, dk, ↓lk, Int.reduceBEq, Int.reduceBNe, Bool.true_bne, Bool.false_bne, Bool.not_true, Bool.not_false, hd1] <;> with_reducible rfl))
        | ((first | apply awR hΓ | apply awG | apply awH mixedOK hΓ rfl (by kernel_rfl) | apply ovE rfl); (simp (disch := omega) only [go_sem, ↓reduceIte, dk, ↓lk, Int.reduceBEq, Int.reduceBNe, Bool.true_bne, Bool.false_bne, Bool.not_true, Bool.not_false, hd1] <;> with_reducible rfl); exact trivial)
        | rfl)
      exact ⟨i + 1, by omega, by omega, Weak.w⟩
  have hi3 : i = lb.length := by omega
  subst hi3
  have e6 := g_allVR_eq (l := la) ⟨by omega, fun t ht => by have := htl rfl t ht; omega⟩
  rw [hval rfl] at e6
  have e7 := g_replR3_eq (l := fs) (p := lp) (n := ln) (tx := tx) ⟨⟨by omega, fun g hg => by have := f2 g hg; have := hfp g hg; omega⟩, hlp, by omega⟩
  have e8 := g_hasLn_eq (l := lb) (p := lp) (n := ln) (by omega)
  have hdm := @repl_dom fs lp ln tx 3000
  generalize replE fs lp ln tx = P at *
  obtain ⟨gs, pe⟩ := P
  dsimp only at hdm hunr e7
  by_cases hpe : pe = 0
  case neg =>
    have hpe2 : (pe != 0) = true := by simpa using hpe
    repeat (first
      | (apply axJ; (focus ((with_reducible constructor) <;> rfl)))
      | (apply awT mixedOK hΓ (by kernel_rfl); (simp (disch := omega) only [go_sem, ↓reduceIte, dk, ↓lk, Int.reduceBEq, Int.reduceBNe, Bool.true_bne, Bool.false_bne, Bool.not_true, Bool.not_false, e6, e7, hpe2] <;> with_reducible rfl))
      | ((first | apply awR hΓ | apply awG | apply awH mixedOK hΓ rfl (by kernel_rfl) | apply ovE rfl); (simp (disch := omega) only [go_sem, ↓reduceIte, dk, ↓lk, Int.reduceBEq, Int.reduceBNe, Bool.true_bne, Bool.false_bne, Bool.not_true, Bool.not_false, e6, e7, hpe2] <;> with_reducible rfl); exact trivial)
      | rfl)
    try rfl
  subst hpe
  obtain ⟨g1, g2⟩ := hdm rfl f2
  cases hcv : covL lb lp ln
  case true =>
    rw [hcv] at e8
    repeat (first
      | (apply axJ; (focus ((with_reducible constructor) <;> rfl)))
      | (apply awT mixedOK hΓ (by kernel_rfl); (simp (disch := omega) only [go_sem, ↓reduceIte, dk, ↓lk, Int.reduceBEq, Int.reduceBNe, Bool.true_bne, Bool.false_bne, Bool.not_true, Bool.not_false, e6, e7, e8] <;> with_reducible rfl))
      | ((first | apply awR hΓ | apply awG | apply awH mixedOK hΓ rfl (by kernel_rfl) | apply ovE rfl); (simp (disch := omega) only [go_sem, ↓reduceIte, dk, ↓lk, Int.reduceBEq, Int.reduceBNe, Bool.true_bne, Bool.false_bne, Bool.not_true, Bool.not_false, e6, e7, e8] <;> with_reducible rfl); exact trivial)
      | rfl)
    try rfl
  rw [hcv] at e8
  have e9 := g_lineP7_eq (fs := gs) (us := us) (l := l) ⟨⟨⟨by omega, fun f hf => by have := g2 f hf; omega⟩, by omega, fun m hm => by have := f4 m hm; omega⟩, by omega, fun t ht => by have := f6 t ht; omega⟩
  rw [hunr rfl rfl hcv, eU_eq] at e9
  unfold eLR at e9
  dsimp only at e9
  have e10 := g_sameT_eq (a := la) (b := la) ⟨by omega, by omega⟩
  have e11 := g_sameL_eq (a := lb) (b := lb) ⟨by omega, by omega⟩
  rw [decide_eq_true rfl] at e10 e11
  repeat (first
    | (apply axJ; (focus ((with_reducible constructor) <;> rfl)))
    | (apply awT mixedOK hΓ (by kernel_rfl); (simp (disch := omega) only [go_sem, ↓reduceIte, dk, ↓lk, Int.reduceBEq, Int.reduceBNe, Bool.true_bne, Bool.false_bne, Bool.not_true, Bool.not_false, e6, e7, e8] <;> with_reducible rfl))
    | ((first | apply awR hΓ | apply awG | apply awH mixedOK hΓ rfl (by kernel_rfl) | apply ovE rfl); (simp (disch := omega) only [go_sem, ↓reduceIte, dk, ↓lk, Int.reduceBEq, Int.reduceBNe, Bool.true_bne, Bool.false_bne, Bool.not_true, Bool.not_false, e6, e7, e8] <;> with_reducible rfl); exact trivial)
    | rfl)
  (apply awp_regf mixedOK hΓ (by kernel_rfl); (simp (disch := omega) only [go_sem, ↓reduceIte, dk, ↓lk, Int.reduceBEq, Int.reduceBNe, Bool.true_bne, Bool.false_bne, Bool.not_true, Bool.not_false, e2, e9] <;> with_reducible rfl); (simp only [go_sem] <;> with_reducible rfl))
  repeat (first
    | (apply axJ; (focus ((with_reducible constructor) <;> rfl)))
    | (apply awT mixedOK hΓ (by kernel_rfl); (simp (disch := omega) only [go_sem, ↓reduceIte, dk, ↓lk, Int.reduceBEq, Int.reduceBNe, Bool.true_bne, Bool.false_bne, Bool.not_true, Bool.not_false, BEq.rfl, e10, e11] <;> with_reducible rfl))
    | ((first | apply awR hΓ | apply awG | apply awH mixedOK hΓ rfl (by kernel_rfl) | apply ovE rfl); (simp (disch := omega) only [go_sem, ↓reduceIte, dk, ↓lk, Int.reduceBEq, Int.reduceBNe, Bool.true_bne, Bool.false_bne, Bool.not_true, Bool.not_false, BEq.rfl, e10, e11] <;> with_reducible rfl); exact trivial)
    | rfl)
  try rfl
end Go.Ab
