/-
  One text of the proof (own work): contracts of functions of the program, by the abstract machine.
-/
import Derived.Test.YtapnigckcnknoaaGreatDoorX19
import Derived.Test.YtapnigckcnknoaaGreatDoorX29
import Derived.Test.YtapnigckcnknoaaGreatDoorX30
import Derived.Test.YtapnigckcnknoaaGreatDoorX32
set_option linter.unusedVariables false
set_option linter.unusedSimpArgs false
namespace Go.Ab
open Go Go.RowKit Go.Proofs
set_option maxRecDepth 10000
set_option maxHeartbeats 16000000
def eU (us : List Mc) : D := .agg [.str [], .list [], .list (us.map eMc), .list [], .list [], .list []]
@[go_sem] theorem eU_eq (us : List Mc) : eU us = .agg [.str [], .list [], .list (us.map eMc), .list [], .list [], .list []] := rfl
theorem eU_e (a b : List Mc) : (eU a = eU b) = (a = b) := propext ⟨fun h => by
  simp only [eU, D.agg.injEq, List.cons.injEq, D.list.injEq, and_true, true_and] at h
  exact (map_ie eMc_inj _ _).mp h, fun h => by rw [h]⟩
noncomputable def g_bodyRR : List D → Option D := encSpec (fun x : (List Fl) × Mc => [.list (x.1.map eFl), eMc x.2]) (fun x : (List Fl) × Mc => x.1.length ≤ 1099511627776 ∧ ∀ f ∈ x.1, f.2.length ≤ 1000000000) (fun x : (List Fl) × Mc => eTks (bodyB x.1 x.2.body))
theorem g_bodyRR_eq {fs : List Fl} {m : Mc} (hd : fs.length ≤ 1099511627776 ∧ ∀ f ∈ fs, f.2.length ≤ 1000000000) : g_bodyRR [.list (fs.map eFl), eMc m] = some (eTks (bodyB fs m.body)) := encSpec_eq (x := (fs, m)) hd fun y hy => by
    obtain ⟨y0, y1⟩ := y; simp only [List.cons.injEq, and_true, true_and, D.str.injEq, D.int.injEq, D.list.injEq, D.bool.injEq, D.agg.injEq, D.clo.injEq, Int.natCast_inj, inj_ie, D.ref.injEq, eU_e, eTk_ie, eTk_e, eFl_ie, eSp_ie, eMc_e, eMc_ie] at hy
    (try obtain ⟨rfl, rfl⟩ := hy)
    (try subst_vars)
    rfl
theorem f_bodyRR_ok : PureOK Tryz.prog 13 false g_bodyRR := by
  have hΓ := Γp f_findR3_ok (Γp f_linesR_ok (Γp f_toksR_ok (Γn)))
  refine pure_enc (n := 83) (rs := [.tmp 4, .tmp 5]) Tryz.func13 (by kernel_rfl) rfl (by kernel_rfl) (by kernel_rfl) ?_
  rintro ⟨fs, m⟩ hd
  (try dsimp only at hd ⊢)
  refine ⟨fun h => (by cases h), fun k hz0 => ?_⟩
  obtain ⟨d1, d2⟩ := hd
  obtain ⟨mn, mp, b1, b2, b3⟩ := m
  have hfl := find_le d2 b1
  have e1 := g_findR3_eq (l := fs) (q := b1) d1
  have e2 := g_linesR_eq (s := (findF fs b1).1) (by omega)
  unfold bodyB
  dsimp only
  rw [eMc_eq]
  dsimp only
  generalize findF fs b1 = F at *
  obtain ⟨F1, F2⟩ := F
  dsimp only at *
  rw [start_frame (by simp)]; simp only [enumV, go_sem, emptyH]
  cases F2
  · simp only [Bool.false_eq_true, if_false]
    repeat (first
      | (apply axJ; (focus ((with_reducible constructor) <;> rfl)))
      | (apply awT mixedOK hΓ (by kernel_rfl); (simp (disch := omega) only [go_sem, ↓reduceIte, dk, ↓lk, Int.reduceBEq, Int.reduceBNe, Bool.true_bne, Bool.false_bne, Bool.not_true, Bool.not_false, e1] <;> with_reducible rfl))
      | ((first | apply awR hΓ | apply awG | apply awH mixedOK hΓ rfl (by kernel_rfl) | apply ovE rfl); (simp (disch := omega) only [go_sem, ↓reduceIte, dk, ↓lk, Int.reduceBEq, Int.reduceBNe, Bool.true_bne, Bool.false_bne, Bool.not_true, Bool.not_false, e1] <;> with_reducible rfl); exact trivial)
      | rfl)
    try rfl
  simp only [if_true]
  have hLb := lines_bd F1
  generalize linesE F1 = G at *
  obtain ⟨G1, G2⟩ := G
  replace e2 : g_linesR [.str F1] = some (.tup [.list (G1.map .str), .int .i64 G2]) := e2
  dsimp only
  cases hG : (G2 == 0)
  · have hG2 : (G2 != 0) = true := by simpa [bne] using hG
    simp only [Bool.false_eq_true, if_false]
    repeat (first
      | (apply axJ; (focus ((with_reducible constructor) <;> rfl)))
      | (apply awT mixedOK hΓ (by kernel_rfl); (simp (disch := omega) only [go_sem, ↓reduceIte, dk, ↓lk, Int.reduceBEq, Int.reduceBNe, Bool.true_bne, Bool.false_bne, Bool.not_true, Bool.not_false, e1, e2, hG2] <;> with_reducible rfl))
      | ((first | apply awR hΓ | apply awG | apply awH mixedOK hΓ rfl (by kernel_rfl) | apply ovE rfl); (simp (disch := omega) only [go_sem, ↓reduceIte, dk, ↓lk, Int.reduceBEq, Int.reduceBNe, Bool.true_bne, Bool.false_bne, Bool.not_true, Bool.not_false, e1, e2, hG2] <;> with_reducible rfl); exact trivial)
      | rfl)
    try rfl
  have hG2 : (G2 != 0) = false := by simpa [bne] using hG
  simp only [if_true]
  unfold bodyR
  dsimp only
  cases hr1 : decide (b2 < 0)
  case true =>
    simp only [Bool.true_or, if_true]
    repeat (first
      | (apply axJ; (focus ((with_reducible constructor) <;> rfl)))
      | (apply awT mixedOK hΓ (by kernel_rfl); (simp (disch := omega) only [go_sem, ↓reduceIte, dk, ↓lk, Int.reduceBEq, Int.reduceBNe, Bool.true_bne, Bool.false_bne, Bool.not_true, Bool.not_false, e1, e2, hG2, hr1] <;> with_reducible rfl))
      | ((first | apply awR hΓ | apply awG | apply awH mixedOK hΓ rfl (by kernel_rfl) | apply ovE rfl); (simp (disch := omega) only [go_sem, ↓reduceIte, dk, ↓lk, Int.reduceBEq, Int.reduceBNe, Bool.true_bne, Bool.false_bne, Bool.not_true, Bool.not_false, e1, e2, hG2, hr1] <;> with_reducible rfl); exact trivial)
      | rfl)
    try rfl
  cases hr2 : decide (b3 < b2)
  case true =>
    simp only [Bool.true_or, Bool.or_true, if_true]
    repeat (first
      | (apply axJ; (focus ((with_reducible constructor) <;> rfl)))
      | (apply awT mixedOK hΓ (by kernel_rfl); (simp (disch := omega) only [go_sem, ↓reduceIte, dk, ↓lk, Int.reduceBEq, Int.reduceBNe, Bool.true_bne, Bool.false_bne, Bool.not_true, Bool.not_false, e1, e2, hG2, hr1, hr2] <;> with_reducible rfl))
      | ((first | apply awR hΓ | apply awG | apply awH mixedOK hΓ rfl (by kernel_rfl) | apply ovE rfl); (simp (disch := omega) only [go_sem, ↓reduceIte, dk, ↓lk, Int.reduceBEq, Int.reduceBNe, Bool.true_bne, Bool.false_bne, Bool.not_true, Bool.not_false, e1, e2, hG2, hr1, hr2] <;> with_reducible rfl); exact trivial)
      | rfl)
    try rfl
  cases hr3 : decide (b3 > (G1.length : Int))
  case true =>
    simp only [Bool.or_true, if_true]
    repeat (first
      | (apply axJ; (focus ((with_reducible constructor) <;> rfl)))
      | (apply awT mixedOK hΓ (by kernel_rfl); (simp (disch := omega) only [go_sem, ↓reduceIte, dk, ↓lk, Int.reduceBEq, Int.reduceBNe, Bool.true_bne, Bool.false_bne, Bool.not_true, Bool.not_false, e1, e2, hG2, hr1, hr2, hr3] <;> with_reducible rfl))
      | ((first | apply awR hΓ | apply awG | apply awH mixedOK hΓ rfl (by kernel_rfl) | apply ovE rfl); (simp (disch := omega) only [go_sem, ↓reduceIte, dk, ↓lk, Int.reduceBEq, Int.reduceBNe, Bool.true_bne, Bool.false_bne, Bool.not_true, Bool.not_false, e1, e2, hG2, hr1, hr2, hr3] <;> with_reducible rfl); exact trivial)
      | rfl)
    try rfl
  simp only [Bool.or_self, Bool.false_eq_true, if_false]
  have k1 := of_decide_eq_false hr1
  have k2 := of_decide_eq_false hr2
  have k3 := of_decide_eq_false hr3
  obtain ⟨f, rfl⟩ : ∃ f : Nat, b2 = (f : Int) := ⟨b2.toNat, by omega⟩
  obtain ⟨t, rfl⟩ : ∃ t : Nat, b3 = (t : Int) := ⟨b3.toNat, by omega⟩
  rw [Int.toNat_natCast, Int.toNat_natCast]
  have hsl : List.take (t - f) (List.drop f (List.map D.str G1)) = ((G1.drop f).take (t - f)).map D.str := by rw [List.map_take, List.map_drop]
  have hRl : ((G1.drop f).take (t - f)).length = t - f := by rw [List.length_take, List.length_drop]; omega
  have hRm : ∀ s ∈ (G1.drop f).take (t - f), s ∈ G1 := fun s hs => List.mem_of_mem_drop (List.mem_of_mem_take hs)
  generalize hR : (G1.drop f).take (t - f) = R at hsl hRl hRm ⊢
  clear hR
  repeat (first
    | (apply axJ; (focus ((with_reducible constructor) <;> rfl)))
    | (apply awT mixedOK hΓ (by kernel_rfl); (simp (disch := omega) only [go_sem, ↓reduceIte, dk, ↓lk, Int.reduceBEq, Int.reduceBNe, Bool.true_bne, Bool.false_bne, Bool.not_true, Bool.not_false, e1, e2, hG2, hr1, hr2, hr3, Int.toNat_natCast, hsl] <;> with_reducible rfl))
    | ((first | apply awR hΓ | apply awG | apply awH mixedOK hΓ rfl (by kernel_rfl) | apply ovE rfl); (simp (disch := omega) only [go_sem, ↓reduceIte, dk, ↓lk, Int.reduceBEq, Int.reduceBNe, Bool.true_bne, Bool.false_bne, Bool.not_true, Bool.not_false, e1, e2, hG2, hr1, hr2, hr3, Int.toNat_natCast, hsl] <;> with_reducible rfl); exact trivial)
    | rfl)
  obtain ⟨hL1, hL2⟩ := hLb
  dsimp only at hL1 hL2
  unfold bodyT
  refine awp_weak (Weak.nilrowF (i := 10) 55 (sz := 2) (by omega) (by omega) rfl) ?_
  refine awp_loop_at (X := Nat × List Tk) (fun y => (frame 83 [(10, .row 56 y.2.length), (61, .data (.list (R.map .str))), (62, .data (i64 R.length)), (63, .data (i64 y.1))])) (fun y => [(56, .row 55 2 (y.2.map eTk))]) 57
    (fun y => y.1 ≤ R.length ∧ tokRow R [] = tokRow (R.drop y.1) y.2 ∧ y.2.length ≤ y.1 * 256) (fun y => R.length - y.1) (0, []) ⟨Nat.zero_le _, rfl, Nat.zero_le _⟩ (Weak.v (by (simp [ConvF, lookV, Conv, ints, upd]; done)) (by (simp (disch := omega) only [TabSub, look, if_pos, if_neg, Obj.refsOK, refsOKs, AV.refsOK, decide_eq_true_eq, Bool.and_true, Bool.and_self, upd] ) <;> ((repeat' apply And.intro) <;> first | exact True.intro | omega | (simp; done) | rfl))) ?_
  rintro ⟨i, acc⟩ ⟨hi, hpre, hac⟩
  (try dsimp only at hi hpre hac ⊢)
  rw [hpre]
  by_cases hi2 : i < R.length
  · have hdr := List.drop_eq_getElem_cons hi2
    have hw := hL2 _ (hRm _ (List.getElem_mem hi2))
    have e3 := g_toksR_eq (s := R[i]) (by omega)
    have htl := toks_len R[i]
    rw [hdr] at hpre ⊢
    rw [tokRow] at hpre ⊢
    generalize hy : R[i] = y at *
    generalize toksB y = q at *
    obtain ⟨q1, q2⟩ := q
    replace e3 : g_toksR [.str y] = some (.tup [.list (q1.map eTk), .int .i64 q2]) := e3
    dsimp only at hpre htl ⊢
    cases hq : (q2 == 0)
    · have hq2 : (q2 != 0) = true := by simpa [bne] using hq
      simp only [Bool.false_eq_true, if_false, hq]
      repeat (first
        | (apply axJ; (focus ((with_reducible constructor) <;> rfl)))
        | (apply awT mixedOK hΓ (by kernel_rfl); (simp (disch := omega) only [go_sem, ↓reduceIte, dk, ↓lk, Int.reduceBEq, Int.reduceBNe, Bool.true_bne, Bool.false_bne, Bool.not_true, Bool.not_false, hy, e3, hq2] <;> with_reducible rfl))
        | ((first | apply awR hΓ | apply awG | apply awH mixedOK hΓ rfl (by kernel_rfl) | apply ovE rfl); (simp (disch := omega) only [go_sem, ↓reduceIte, dk, ↓lk, Int.reduceBEq, Int.reduceBNe, Bool.true_bne, Bool.false_bne, Bool.not_true, Bool.not_false, hy, e3, hq2] <;> with_reducible rfl); exact trivial)
        | rfl)
      try rfl
    · have hq2 : (q2 != 0) = false := by simpa [bne] using hq
      rw [hq] at hpre
      simp only [if_true] at hpre ⊢
      rw [← hpre]
      repeat (first
        | (apply axJ; (focus ((with_reducible constructor) <;> rfl)))
        | (apply awT mixedOK hΓ (by kernel_rfl); (simp (disch := omega) only [go_sem, ↓reduceIte, dk, ↓lk, Int.reduceBEq, Int.reduceBNe, Bool.true_bne, Bool.false_bne, Bool.not_true, Bool.not_false, hy, e3, hq2] <;> with_reducible rfl))
        | ((first | apply awR hΓ | apply awG | apply awH mixedOK hΓ rfl (by kernel_rfl) | apply ovE rfl); (simp (disch := omega) only [go_sem, ↓reduceIte, dk, ↓lk, Int.reduceBEq, Int.reduceBNe, Bool.true_bne, Bool.false_bne, Bool.not_true, Bool.not_false, hy, e3, hq2] <;> with_reducible rfl); exact trivial)
        | rfl)
      refine ⟨(i + 1, acc ++ q1), ⟨by dsimp only; omega, hpre, by dsimp only; rw [List.length_append]; omega⟩, by dsimp only; omega, ?_⟩
      exact Weak.v (by (simp [ConvF, lookV, Conv, ints, List.map_append, List.length_append]; done)) (by (simp (disch := omega) only [TabSub, look, if_pos, if_neg, Obj.refsOK, refsOKs, AV.refsOK, decide_eq_true_eq, Bool.and_true, Bool.and_self, List.map_append, List.length_append] ) <;> ((repeat' apply And.intro) <;> first | exact True.intro | omega | (simp; done) | rfl))
  have hi3 : i = R.length := by omega
  subst hi3
  rw [List.drop_length, tokRow]
  dsimp only
  rw [show ((0 : Int) == 0) = true from rfl]
  simp only [if_true]
  cases h5 : decide ((acc.length : Int) > 256)
  · simp only [Bool.false_eq_true, if_false]
    repeat (first
      | (apply axJ; (focus ((with_reducible constructor) <;> rfl)))
      | (apply awT mixedOK hΓ (by kernel_rfl); (simp (disch := omega) only [go_sem, ↓reduceIte, dk, ↓lk, Int.reduceBEq, Int.reduceBNe, Bool.true_bne, Bool.false_bne, Bool.not_true, Bool.not_false, h5] <;> with_reducible rfl))
      | ((first | apply awR hΓ | apply awG | apply awH mixedOK hΓ rfl (by kernel_rfl) | apply ovE rfl); (simp (disch := omega) only [go_sem, ↓reduceIte, dk, ↓lk, Int.reduceBEq, Int.reduceBNe, Bool.true_bne, Bool.false_bne, Bool.not_true, Bool.not_false, h5] <;> with_reducible rfl); exact trivial)
      | rfl)
    try rfl
  · simp only [if_true]
    repeat (first
      | (apply axJ; (focus ((with_reducible constructor) <;> rfl)))
      | (apply awT mixedOK hΓ (by kernel_rfl); (simp (disch := omega) only [go_sem, ↓reduceIte, dk, ↓lk, Int.reduceBEq, Int.reduceBNe, Bool.true_bne, Bool.false_bne, Bool.not_true, Bool.not_false, h5] <;> with_reducible rfl))
      | ((first | apply awR hΓ | apply awG | apply awH mixedOK hΓ rfl (by kernel_rfl) | apply ovE rfl); (simp (disch := omega) only [go_sem, ↓reduceIte, dk, ↓lk, Int.reduceBEq, Int.reduceBNe, Bool.true_bne, Bool.false_bne, Bool.not_true, Bool.not_false, h5] <;> with_reducible rfl); exact trivial)
      | rfl)
    try rfl
def fewM (m : Mc) : Bool := !decide ((m.name.length : Int) > 100) && (!decide ((m.params.length : Int) > 12) && (!decide ((m.body.1.length : Int) > 300) && m.params.all (fun p => !decide ((p.length : Int) > 100))))
def few7 (us : List Mc) : Bool := us.all fewM && decide ((us.length : Int) ≤ 20)
noncomputable def g_few7R : List D → Option D := encSpec (fun x : (List Mc) => [eU x]) (fun x : (List Mc) => x.length ≤ 1099511627776 ∧ ∀ m ∈ x, m.params.length ≤ 1099511627776) (fun x : (List Mc) => .bool (few7 x))
theorem g_few7R_eq {us : List Mc} (hd : us.length ≤ 1099511627776 ∧ ∀ m ∈ us, m.params.length ≤ 1099511627776) : g_few7R [eU us] = some (.bool (few7 us)) := encSpec_eq (x := us) hd fun y hy => by
    simp only [List.cons.injEq, and_true, true_and, D.str.injEq, D.int.injEq, D.list.injEq, D.bool.injEq, D.agg.injEq, D.clo.injEq, Int.natCast_inj, inj_ie, D.ref.injEq, eU_e, eTk_ie, eTk_e, eFl_ie, eSp_ie, eMc_e, eMc_ie] at hy
    rw [hy]
theorem f_few7R_ok : PureOK Tryz.prog 11 true g_few7R := by
  have hΓ := Γ0_ok
  refine pure_enc (n := 47) (rs := [.tmp 2]) Tryz.func11 (by kernel_rfl) rfl (by kernel_rfl) (by kernel_rfl) ?_
  rintro us hd
  (try dsimp only at hd ⊢)
  refine ⟨fun _ => by (repeat (first | exact .int _ _ | exact .bool _ | exact .str _ | (refine .tup _ (fun d hd => ?_); simp only [List.mem_cons, List.not_mem_nil, or_false] at hd; rcases hd with rfl | hd))), fun k hz0 => ?_⟩
  obtain ⟨d1, d2⟩ := hd
  unfold few7
  rw [eU_eq]
  rw [start_frame (by simp)]; simp only [enumV, go_sem, emptyH]
  repeat (first
    | (apply axJ; (focus ((with_reducible constructor) <;> rfl)))
    | (apply awT mixedOK hΓ (by kernel_rfl); (simp (disch := omega) only [go_sem, ↓reduceIte, dk, ↓lk, Int.reduceBEq, Int.reduceBNe, Bool.true_bne, Bool.false_bne, Bool.not_true, Bool.not_false] <;> with_reducible rfl))
    | ((first | apply awR hΓ | apply awG | apply awH mixedOK hΓ rfl (by kernel_rfl) | apply ovE rfl); (simp (disch := omega) only [go_sem, ↓reduceIte, dk, ↓lk, Int.reduceBEq, Int.reduceBNe, Bool.true_bne, Bool.false_bne, Bool.not_true, Bool.not_false] <;> with_reducible rfl); exact trivial)
    | rfl)
  refine awp_loop_at (X := Nat) (fun i => (frame 47 [(1, .ptr 0 0), (8, .data (.list (us.map eMc))), (9, .data (i64 us.length)), (10, .data (i64 i))])) (fun _ => [(0, .box [.data (.str []), .data (.list []), .data (.list (us.map eMc)), .data (.list []), .data (.list []), .data (.list [])])]) 6
    (fun i => i ≤ us.length ∧ (us.take i).all fewM = true) (fun i => us.length - i) 0 ⟨Nat.zero_le _, rfl⟩ (Weak.w) ?_
  rintro i ⟨hi, hpre⟩
  (try dsimp only at hi hpre ⊢)
  by_cases hi2 : i < us.length
  · have hat := @all_at _ fewM us i hi2
    have htk := @all_take _ fewM us i hi2 hpre
    have hdp := d2 _ (List.getElem_mem hi2)
    generalize hy : us[i] = y at *
    obtain ⟨y1, y2, y3, y4, y5⟩ := y
    dsimp only at hdp
    have hfm : fewM ⟨y1, y2, y3, y4, y5⟩ = (!decide ((y1.length : Int) > 100) && (!decide ((y2.length : Int) > 12) && (!decide ((y3.length : Int) > 300) && y2.all (fun p => !decide ((p.length : Int) > 100))))) := rfl
    rw [hfm] at hat htk
    clear hfm
    cases k1 : decide ((y1.length : Int) > 100)
    case true =>
      rw [k1] at hat
      rw [hat rfl, Bool.false_and]
      repeat (first
        | (apply axJ; (focus ((with_reducible constructor) <;> rfl)))
        | (apply awT mixedOK hΓ (by kernel_rfl); (simp (disch := omega) only [go_sem, ↓reduceIte, dk, ↓lk, Int.reduceBEq, Int.reduceBNe, Bool.true_bne, Bool.false_bne, Bool.not_true, Bool.not_false, hy, k1] <;> with_reducible rfl))
        | ((first | apply awR hΓ | apply awG | apply awH mixedOK hΓ rfl (by kernel_rfl) | apply ovE rfl); (simp (disch := omega) only [go_sem, ↓reduceIte, dk, ↓lk, Int.reduceBEq, Int.reduceBNe, Bool.true_bne, Bool.false_bne, Bool.not_true, Bool.not_false, hy, k1] <;> with_reducible rfl); exact trivial)
        | rfl)
      try rfl
    cases k2 : decide ((y2.length : Int) > 12)
    case true =>
      rw [k1, k2] at hat
      rw [hat rfl, Bool.false_and]
      repeat (first
        | (apply axJ; (focus ((with_reducible constructor) <;> rfl)))
        | (apply awT mixedOK hΓ (by kernel_rfl); (simp (disch := omega) only [go_sem, ↓reduceIte, dk, ↓lk, Int.reduceBEq, Int.reduceBNe, Bool.true_bne, Bool.false_bne, Bool.not_true, Bool.not_false, hy, k1, k2] <;> with_reducible rfl))
        | ((first | apply awR hΓ | apply awG | apply awH mixedOK hΓ rfl (by kernel_rfl) | apply ovE rfl); (simp (disch := omega) only [go_sem, ↓reduceIte, dk, ↓lk, Int.reduceBEq, Int.reduceBNe, Bool.true_bne, Bool.false_bne, Bool.not_true, Bool.not_false, hy, k1, k2] <;> with_reducible rfl); exact trivial)
        | rfl)
      try rfl
    cases k3 : decide ((y3.length : Int) > 300)
    case true =>
      rw [k1, k2, k3] at hat
      rw [hat rfl, Bool.false_and]
      repeat (first
        | (apply axJ; (focus ((with_reducible constructor) <;> rfl)))
        | (apply awT mixedOK hΓ (by kernel_rfl); (simp (disch := omega) only [go_sem, ↓reduceIte, dk, ↓lk, Int.reduceBEq, Int.reduceBNe, Bool.true_bne, Bool.false_bne, Bool.not_true, Bool.not_false, hy, k1, k2, k3] <;> with_reducible rfl))
        | ((first | apply awR hΓ | apply awG | apply awH mixedOK hΓ rfl (by kernel_rfl) | apply ovE rfl); (simp (disch := omega) only [go_sem, ↓reduceIte, dk, ↓lk, Int.reduceBEq, Int.reduceBNe, Bool.true_bne, Bool.false_bne, Bool.not_true, Bool.not_false, hy, k1, k2, k3] <;> with_reducible rfl); exact trivial)
        | rfl)
      try rfl
    rw [k1, k2, k3] at hat htk
    simp only [Bool.not_false, Bool.true_and] at hat htk
    repeat (first
      | (apply axJ; (focus ((with_reducible constructor) <;> rfl)))
      | (apply awT mixedOK hΓ (by kernel_rfl); (simp (disch := omega) only [go_sem, ↓reduceIte, dk, ↓lk, Int.reduceBEq, Int.reduceBNe, Bool.true_bne, Bool.false_bne, Bool.not_true, Bool.not_false, hy, k1, k2, k3] <;> with_reducible rfl))
      | ((first | apply awR hΓ | apply awG | apply awH mixedOK hΓ rfl (by kernel_rfl) | apply ovE rfl); (simp (disch := omega) only [go_sem, ↓reduceIte, dk, ↓lk, Int.reduceBEq, Int.reduceBNe, Bool.true_bne, Bool.false_bne, Bool.not_true, Bool.not_false, hy, k1, k2, k3] <;> with_reducible rfl); exact trivial)
      | rfl)
    refine awp_loop_at (X := Nat) (fun j => (frame 47 [(1, .ptr 0 0), (8, .data (.list (us.map eMc))), (9, .data (i64 us.length)), (10, .data (i64 i)), (32, .data (.list (y2.map .str))), (33, .data (i64 y2.length)), (34, .data (i64 j))])) (fun _ => [(0, .box [.data (.str []), .data (.list []), .data (.list (us.map eMc)), .data (.list []), .data (.list []), .data (.list [])])]) 12
      (fun j => j ≤ y2.length ∧ (y2.take j).all (fun p => !decide ((p.length : Int) > 100)) = true) (fun j => y2.length - j) 0 ⟨Nat.zero_le _, rfl⟩ (Weak.w) ?_
    rintro j ⟨hj, hpj⟩
    (try dsimp only at hj hpj ⊢)
    by_cases hj2 : j < y2.length
    · have haj := @all_at _ (fun p : Bs => !decide ((p.length : Int) > 100)) y2 j hj2
      have htj := @all_take _ (fun p : Bs => !decide ((p.length : Int) > 100)) y2 j hj2 hpj
      generalize hz : y2[j] = z at *
      cases k4 : decide ((z.length : Int) > 100)
      · rw [k4] at htj
        repeat (first
          | (apply axJ; (focus ((with_reducible constructor) <;> rfl)))
          | (apply awT mixedOK hΓ (by kernel_rfl); (simp (disch := omega) only [go_sem, ↓reduceIte, dk, ↓lk, Int.reduceBEq, Int.reduceBNe, Bool.true_bne, Bool.false_bne, Bool.not_true, Bool.not_false, hz, k4] <;> with_reducible rfl))
          | ((first | apply awR hΓ | apply awG | apply awH mixedOK hΓ rfl (by kernel_rfl) | apply ovE rfl); (simp (disch := omega) only [go_sem, ↓reduceIte, dk, ↓lk, Int.reduceBEq, Int.reduceBNe, Bool.true_bne, Bool.false_bne, Bool.not_true, Bool.not_false, hz, k4] <;> with_reducible rfl); exact trivial)
          | rfl)
        exact ⟨j + 1, ⟨by omega, htj rfl⟩, by omega, Weak.w⟩
      · rw [k4] at haj
        rw [hat (haj rfl), Bool.false_and]
        repeat (first
          | (apply axJ; (focus ((with_reducible constructor) <;> rfl)))
          | (apply awT mixedOK hΓ (by kernel_rfl); (simp (disch := omega) only [go_sem, ↓reduceIte, dk, ↓lk, Int.reduceBEq, Int.reduceBNe, Bool.true_bne, Bool.false_bne, Bool.not_true, Bool.not_false, hz, k4] <;> with_reducible rfl))
          | ((first | apply awR hΓ | apply awG | apply awH mixedOK hΓ rfl (by kernel_rfl) | apply ovE rfl); (simp (disch := omega) only [go_sem, ↓reduceIte, dk, ↓lk, Int.reduceBEq, Int.reduceBNe, Bool.true_bne, Bool.false_bne, Bool.not_true, Bool.not_false, hz, k4] <;> with_reducible rfl); exact trivial)
          | rfl)
        try rfl
    have hj3 : j = y2.length := by omega
    subst hj3
    rw [List.take_length] at hpj
    repeat (first
      | (apply axJ; (focus ((with_reducible constructor) <;> rfl)))
      | (apply awT mixedOK hΓ (by kernel_rfl); (simp (disch := omega) only [go_sem, ↓reduceIte, dk, ↓lk, Int.reduceBEq, Int.reduceBNe, Bool.true_bne, Bool.false_bne, Bool.not_true, Bool.not_false] <;> with_reducible rfl))
      | ((first | apply awR hΓ | apply awG | apply awH mixedOK hΓ rfl (by kernel_rfl) | apply ovE rfl); (simp (disch := omega) only [go_sem, ↓reduceIte, dk, ↓lk, Int.reduceBEq, Int.reduceBNe, Bool.true_bne, Bool.false_bne, Bool.not_true, Bool.not_false] <;> with_reducible rfl); exact trivial)
      | rfl)
    exact ⟨i + 1, ⟨by omega, htk hpj⟩, by omega, Weak.w⟩
  have hi3 : i = us.length := by omega
  subst hi3
  rw [List.take_length] at hpre
  rw [hpre, Bool.true_and]
  generalize hc : decide ((us.length : Int) ≤ 20) = c
  repeat (first
    | (apply axJ; (focus ((with_reducible constructor) <;> rfl)))
    | (apply awT mixedOK hΓ (by kernel_rfl); (simp (disch := omega) only [go_sem, ↓reduceIte, dk, ↓lk, Int.reduceBEq, Int.reduceBNe, Bool.true_bne, Bool.false_bne, Bool.not_true, Bool.not_false, hc] <;> with_reducible rfl))
    | ((first | apply awR hΓ | apply awG | apply awH mixedOK hΓ rfl (by kernel_rfl) | apply ovE rfl); (simp (disch := omega) only [go_sem, ↓reduceIte, dk, ↓lk, Int.reduceBEq, Int.reduceBNe, Bool.true_bne, Bool.false_bne, Bool.not_true, Bool.not_false, hc] <;> with_reducible rfl); exact trivial)
    | rfl)
  try rfl
theorem eq_sp (a c e g : Int) (s t : Bs) : eqAgg Tryz.prog 26 [.str s, .int .i64 a, .int .i64 c] [.str t, .int .i64 e, .int .i64 g] = some ((s == t) && ((a == e) && (c == g))) := by
  have hu : Program.underlying Tryz.prog 26 = some (.struct #[⟨"Path", 9, 0, false, "", "", 0⟩, ⟨"From", 3, 1, false, "", "", 16⟩, ⟨"To", 3, 2, false, "", "", 24⟩]) := by kernel_rfl
  have hg : (Tryz.prog.stoodInHeld 26 || Tryz.prog.eqGuardType Tryz.prog.depth 26) = false := by kernel_rfl
  unfold eqAgg
  rw [hu]
  simp only [hg, Bool.false_eq_true, if_false]
  simp [eqFlds, keyKind, keyEq, ty_und3, ty_agg3, ty_und9, ty_agg9]
noncomputable def g_sameL : List D → Option D := encSpec (fun x : (List Sp) × (List Sp) => [.list (x.1.map eSp), .list (x.2.map eSp)]) (fun x : (List Sp) × (List Sp) => x.1.length ≤ 1099511627776 ∧ x.2.length ≤ 1099511627776) (fun x : (List Sp) × (List Sp) => .bool (decide (x.1 = x.2)))
theorem g_sameL_eq {a : List Sp} {b : List Sp} (hd : a.length ≤ 1099511627776 ∧ b.length ≤ 1099511627776) : g_sameL [.list (a.map eSp), .list (b.map eSp)] = some (.bool (decide (a = b))) := encSpec_eq (x := (a, b)) hd fun y hy => by
    obtain ⟨y0, y1⟩ := y; simp only [List.cons.injEq, and_true, true_and, D.str.injEq, D.int.injEq, D.list.injEq, D.bool.injEq, D.agg.injEq, D.clo.injEq, Int.natCast_inj, inj_ie, D.ref.injEq, eU_e, eTk_ie, eTk_e, eFl_ie, eSp_ie, eMc_e, eMc_ie] at hy
    (try obtain ⟨rfl, rfl⟩ := hy)
    (try subst_vars)
    rfl
theorem f_sameL_ok : PureOK Tryz.prog 19 true g_sameL := by
  have hΓ := Γ0_ok
  refine pure_enc (n := 26) (rs := [.tmp 4]) Tryz.func19 (by kernel_rfl) rfl (by kernel_rfl) (by kernel_rfl) ?_
  rintro ⟨a, b⟩ hd
  (try dsimp only at hd ⊢)
  refine ⟨fun _ => by (repeat (first | exact .int _ _ | exact .bool _ | exact .str _ | (refine .tup _ (fun d hd => ?_); simp only [List.mem_cons, List.not_mem_nil, or_false] at hd; rcases hd with rfl | hd))), fun k hz0 => ?_⟩
  obtain ⟨d1, d2⟩ := hd
  rw [start_frame (by simp)]; simp only [enumV, go_sem, emptyH]
  by_cases hl : a.length = b.length
  case neg =>
    have hab : decide (a = b) = false := decide_eq_false fun e => hl (by rw [e])
    rw [hab]
    have h1 : (((a.length : Nat) : Int) != (b.length : Int)) = true := by
      simp only [bne_iff_ne, ne_eq]
      omega
    repeat (first
      | (apply axJ; (focus ((with_reducible constructor) <;> rfl)))
      | (apply awT mixedOK hΓ (by kernel_rfl); (simp (disch := omega) only [go_sem, ↓reduceIte, dk, ↓lk, Int.reduceBEq, Int.reduceBNe, Bool.true_bne, Bool.false_bne, Bool.not_true, Bool.not_false, h1] <;> with_reducible rfl))
      | ((first | apply awR hΓ | apply awG | apply awH mixedOK hΓ rfl (by kernel_rfl) | apply ovE rfl); (simp (disch := omega) only [go_sem, ↓reduceIte, dk, ↓lk, Int.reduceBEq, Int.reduceBNe, Bool.true_bne, Bool.false_bne, Bool.not_true, Bool.not_false, h1] <;> with_reducible rfl); exact trivial)
      | rfl)
    try rfl
  have h1 : (((a.length : Nat) : Int) != (b.length : Int)) = false := by simp [hl]
  repeat (first
    | (apply axJ; (focus ((with_reducible constructor) <;> rfl)))
    | (apply awT mixedOK hΓ (by kernel_rfl); (simp (disch := omega) only [go_sem, ↓reduceIte, dk, ↓lk, Int.reduceBEq, Int.reduceBNe, Bool.true_bne, Bool.false_bne, Bool.not_true, Bool.not_false, h1] <;> with_reducible rfl))
    | ((first | apply awR hΓ | apply awG | apply awH mixedOK hΓ rfl (by kernel_rfl) | apply ovE rfl); (simp (disch := omega) only [go_sem, ↓reduceIte, dk, ↓lk, Int.reduceBEq, Int.reduceBNe, Bool.true_bne, Bool.false_bne, Bool.not_true, Bool.not_false, h1] <;> with_reducible rfl); exact trivial)
    | rfl)
  refine awp_loop_at (X := Nat) (fun i => (frame 26 [(0, .data (.list (a.map eSp))), (1, .data (.list (b.map eSp))), (12, .data (i64 a.length)), (13, .data (i64 i))])) (fun _ => []) 12
    (fun i => i ≤ a.length ∧ a.take i = b.take i) (fun i => a.length - i) 0 ⟨Nat.zero_le _, rfl⟩ (Weak.w) ?_
  rintro i ⟨hi, hpre⟩
  (try dsimp only at hi hpre ⊢)
  by_cases hi2 : i < a.length
  · have hi3 : i < b.length := by omega
    have hdf := list_diff hi2 hi3
    have hnx : a[i] = b[i] → a.take (i + 1) = b.take (i + 1) := fun h => by
      rw [List.take_add_one, List.take_add_one, hpre, List.getElem?_eq_getElem hi2, List.getElem?_eq_getElem hi3, h]
    generalize hy : a[i] = y at *
    generalize hz : b[i] = z at *
    obtain ⟨y1, y2, y3⟩ := y
    obtain ⟨z1, z2, z3⟩ := z
    by_cases he : ((y1, y2, y3) : Sp) = (z1, z2, z3)
    · have hq : ((y1 == z1) && ((y2 == z2) && (y3 == z3))) = true := by
        simp only [Prod.mk.injEq] at he
        simp [he.1, he.2.1, he.2.2]
      repeat (first
        | (apply axJ; (focus ((with_reducible constructor) <;> rfl)))
        | (apply awT mixedOK hΓ (by kernel_rfl); (simp (disch := omega) only [go_sem, ↓reduceIte, dk, ↓lk, Int.reduceBEq, Int.reduceBNe, Bool.true_bne, Bool.false_bne, Bool.not_true, Bool.not_false, hy, hz, eq_sp, hq] <;> with_reducible rfl))
        | ((first | apply awR hΓ | apply awG | apply awH mixedOK hΓ rfl (by kernel_rfl) | apply ovE rfl); (simp (disch := omega) only [go_sem, ↓reduceIte, dk, ↓lk, Int.reduceBEq, Int.reduceBNe, Bool.true_bne, Bool.false_bne, Bool.not_true, Bool.not_false, hy, hz, eq_sp, hq] <;> with_reducible rfl); exact trivial)
        | rfl)
      exact ⟨i + 1, ⟨by omega, hnx he⟩, by omega, Weak.w⟩
    · have hq : ((y1 == z1) && ((y2 == z2) && (y3 == z3))) = false := by
        rw [Bool.eq_false_iff]
        intro h
        simp only [Bool.and_eq_true, beq_iff_eq] at h
        exact he (by rw [h.1, h.2.1, h.2.2])
      have hab : decide (a = b) = false := decide_eq_false (hdf he)
      rw [hab]
      repeat (first
        | (apply axJ; (focus ((with_reducible constructor) <;> rfl)))
        | (apply awT mixedOK hΓ (by kernel_rfl); (simp (disch := omega) only [go_sem, ↓reduceIte, dk, ↓lk, Int.reduceBEq, Int.reduceBNe, Bool.true_bne, Bool.false_bne, Bool.not_true, Bool.not_false, hy, hz, eq_sp, hq] <;> with_reducible rfl))
        | ((first | apply awR hΓ | apply awG | apply awH mixedOK hΓ rfl (by kernel_rfl) | apply ovE rfl); (simp (disch := omega) only [go_sem, ↓reduceIte, dk, ↓lk, Int.reduceBEq, Int.reduceBNe, Bool.true_bne, Bool.false_bne, Bool.not_true, Bool.not_false, hy, hz, eq_sp, hq] <;> with_reducible rfl); exact trivial)
        | rfl)
      try rfl
  have hi3 : i = a.length := by omega
  subst hi3
  rw [List.take_length, List.take_of_length_le (by omega)] at hpre
  rw [decide_eq_true hpre]
  repeat (first
    | (apply axJ; (focus ((with_reducible constructor) <;> rfl)))
    | (apply awT mixedOK hΓ (by kernel_rfl); (simp (disch := omega) only [go_sem, ↓reduceIte, dk, ↓lk, Int.reduceBEq, Int.reduceBNe, Bool.true_bne, Bool.false_bne, Bool.not_true, Bool.not_false] <;> with_reducible rfl))
    | ((first | apply awR hΓ | apply awG | apply awH mixedOK hΓ rfl (by kernel_rfl) | apply ovE rfl); (simp (disch := omega) only [go_sem, ↓reduceIte, dk, ↓lk, Int.reduceBEq, Int.reduceBNe, Bool.true_bne, Bool.false_bne, Bool.not_true, Bool.not_false] <;> with_reducible rfl); exact trivial)
    | rfl)
  try rfl
end Go.Ab
