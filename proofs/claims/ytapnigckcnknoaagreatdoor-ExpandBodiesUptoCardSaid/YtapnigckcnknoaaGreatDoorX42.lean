/-
  One text of the proof (own work): contracts of functions of the program, by the abstract machine.
-/
import Derived.Test.YtapnigckcnknoaaGreatDoorX19
import Derived.Test.YtapnigckcnknoaaGreatDoorX40
import Derived.Test.YtapnigckcnknoaaGreatDoorX41
import Derived.Test.YtapnigckcnknoaaGreatDoorX25
set_option linter.unusedVariables false
set_option linter.unusedSimpArgs false
namespace Go.Ab
open Go Go.RowKit Go.Proofs
set_option maxRecDepth 100000
set_option maxHeartbeats 40000000
theorem kept_full (l : List Sp) : keptS l = l.filter full := by
  unfold keptS
  refine List.filter_congr fun s _ => ?_
  unfold emptyS full
  rw [Bool.eq_iff_iff]
  simp only [Bool.not_eq_true', decide_eq_false_iff_not, decide_eq_true_eq]
  omega
def outM : Option (List Sp × Sp) → List Sp
  | none => []
  | some (pre, c) => pre ++ [c]
def joinM : Option (List Sp × Sp) → List Sp → List Sp
  | none, r => mgL r
  | some (pre, c), r => pre ++ mg c r
theorem joinM_cons (o : Option (List Sp × Sp)) (y : Sp) (r : List Sp) : joinM o (y :: r) = match o with
    | none => joinM (some ([], y)) r
    | some (pre, c) => if c.1 == y.1 && decide (c.2.2 ≥ y.2.1) then joinM (some (pre, (c.1, c.2.1, max c.2.2 y.2.2))) r else joinM (some (pre ++ [c], y)) r := by
  cases o with
  | none => rfl
  | some q =>
    obtain ⟨pre, c⟩ := q
    simp only [joinM]
    rw [mg]
    split
    · rfl
    · simp
theorem joinM_nil (o : Option (List Sp × Sp)) : joinM o [] = outM o := by
  cases o with
  | none => rfl
  | some q => rfl
theorem outM_len (o : Option (List Sp × Sp)) : (outM o).length = match o with
    | none => 0
    | some (pre, _) => pre.length + 1 := by
  cases o with
  | none => rfl
  | some q => simp [outM]
theorem set_plain (l : List Sp) : mgL (pdqS (keptS l)) = setG l := by
  obtain ⟨h1, h2⟩ := pdqS_ok (keptS l)
  rw [kept_full] at h1 h2 ⊢
  exact setG_eq h1 h2
noncomputable def g_setP : List D → Option D := encSpec (fun x : (List Sp) => [.list (x.map eSp)]) (fun x : (List Sp) => x.length ≤ 1000000) (fun x : (List Sp) => .list ((setG x).map eSp))
theorem g_setP_eq {l : List Sp} (hd : l.length ≤ 1000000) : g_setP [.list (l.map eSp)] = some (.list ((setG l).map eSp)) := encSpec_eq (x := l) hd fun y hy => by
    simp only [List.cons.injEq, and_true, true_and, D.str.injEq, D.int.injEq, D.list.injEq, D.bool.injEq, D.agg.injEq, D.clo.injEq, Int.natCast_inj, inj_ie, eSp_e, eSp_ie] at hy
    rw [hy]
theorem f_setP_ok : PureOK Tryz.prog 42 false g_setP := by
  have hΓ := Γo f_cloS7_ok (Γq f_delS_ok (Γq f_sortSp_ok (Γn)))
  refine pure_enc (n := 61) (rs := [.tmp 2]) Tryz.func42 (by kernel_rfl) rfl (by kernel_rfl) (by kernel_rfl) ?_
  rintro l hd
  (try dsimp only at hd ⊢)
  refine ⟨fun h => (by cases h), fun k hz0 => ?_⟩
  rw [← set_plain]
  have e1 := g_cloS7_eq (l := l) (by omega)
  obtain ⟨r, os, hG, e2⟩ := g_delS_eq hd
  unfold dlA dlO at e2
  have hkl : (keptS l).length ≤ l.length := List.length_filter_le _ _
  have e3 := g_sortSp_eq (ss := keptS l) (by omega)
  have hpl := pdqS_len (keptS l)
  rw [start_frame (by simp)]; simp only [enumV, go_sem, emptyH]
  rcases hG with ⟨hk, rfl, rfl⟩ | ⟨rfl, rfl⟩
  · rw [hk] at e3 hpl ⊢
    unfold dlO at e2
    have hcall : ∀ k m, callLoc k ⟨[(2, .row 26 3 (l.map eSp))], m⟩ g_delS [.row 2 l.length, .data (.clo 68 [])] = some (.row 2 l.length, ⟨[(2, .row 26 3 (l.map eSp))], k⟩) := fun k m => (callLoc_of (fp := [2]) rfl rfl rfl e2 (Nat.le_refl _)).trans rfl
    have hcall2 : ∀ k m, callLoc k ⟨[(2, .row 26 3 (l.map eSp))], m⟩ g_sortSp [.row 2 l.length, .data (.clo 70 [])] = some (.junk, ⟨[(2, .row 26 3 ((pdqS l).map eSp))], k⟩) := fun k m => (callLoc_of (fp := [2]) rfl rfl rfl e3 (Nat.le_refl _)).trans rfl
    repeat (first
      | (apply axJ; (focus ((with_reducible constructor) <;> rfl)))
      | (apply awT mixedOK hΓ (by kernel_rfl); (simp (disch := omega) only [go_sem, ↓reduceIte, dk, ↓lk, Int.reduceBEq, Int.reduceBNe, Bool.true_bne, Bool.false_bne, Bool.not_true, Bool.not_false, e1, hcall, hcall2, List.length_map] <;> with_reducible rfl))
      | ((first | apply awR hΓ | apply awG | apply awH mixedOK hΓ rfl (by kernel_rfl) | apply ovE rfl); (simp (disch := omega) only [go_sem, ↓reduceIte, dk, ↓lk, Int.reduceBEq, Int.reduceBNe, Bool.true_bne, Bool.false_bne, Bool.not_true, Bool.not_false, e1, hcall, hcall2, List.length_map] <;> with_reducible rfl); exact trivial)
      | rfl)
    refine awp_weak ((Weak.freeze (o := 2) rfl).trans (show Weak _ _ _ ((frame 61 [(3, .nils), (12, .data (.list ((pdqS l).map eSp))), (13, .data (i64 l.length)), (14, .data (i64 ((0 : Nat) : Int)))])) ⟨[], 12⟩ from Weak.v (by (simp [ConvF, lookV, Conv, ints, upd, Heap.set, Heap.get, look, hpl]; done)) (by (simp (disch := omega) only [TabSub, look, if_pos, if_neg, Obj.refsOK, refsOKs, AV.refsOK, decide_eq_true_eq, Bool.and_true, Bool.and_self, upd, Heap.set, Heap.get, look, hpl] ) <;> ((repeat' apply And.intro) <;> first | exact True.intro | omega | (simp; done) | rfl)))) ?_
    refine awp_weak (Weak.nilrowF (i := 3) 26 (sz := 3) (by omega) (by omega) rfl) ?_
    rw [← hpl]
    generalize pdqS l = L at *
    refine awp_loop_at (X := Option (List Sp × Sp) × Nat) (fun y => (frame 61 [(3, .row 12 (outM y.1).length), (12, .data (.list (L.map eSp))), (13, .data (i64 L.length)), (14, .data (i64 y.2))])) (fun y => [(12, .row 26 3 ((outM y.1).map eSp))]) 13
      (fun y => y.2 ≤ L.length ∧ mgL L = joinM y.1 (L.drop y.2) ∧ (outM y.1).length ≤ y.2) (fun y => L.length - y.2) (none, 0) ⟨Nat.zero_le _, rfl, Nat.le_refl _⟩ (Weak.v (by (simp [ConvF, lookV, Conv, ints, upd, outM]; done)) (by (simp (disch := omega) only [TabSub, look, if_pos, if_neg, Obj.refsOK, refsOKs, AV.refsOK, decide_eq_true_eq, Bool.and_true, Bool.and_self, upd, outM] ) <;> ((repeat' apply And.intro) <;> first | exact True.intro | omega | (simp; done) | rfl))) ?_
    rintro ⟨o, i⟩ ⟨hi, hpre, hol⟩
    (try dsimp only at hi hpre hol ⊢)
    by_cases hi2 : i < L.length
    case neg =>
      have hi3 : i = L.length := by omega
      subst hi3
      rw [List.drop_length, joinM_nil] at hpre
      rw [hpre]
      repeat (first
        | (apply axJ; (focus ((with_reducible constructor) <;> rfl)))
        | (apply awT mixedOK hΓ (by kernel_rfl); (simp (disch := omega) only [go_sem, ↓reduceIte, dk, ↓lk, Int.reduceBEq, Int.reduceBNe, Bool.true_bne, Bool.false_bne, Bool.not_true, Bool.not_false] <;> with_reducible rfl))
        | ((first | apply awR hΓ | apply awG | apply awH mixedOK hΓ rfl (by kernel_rfl) | apply ovE rfl); (simp (disch := omega) only [go_sem, ↓reduceIte, dk, ↓lk, Int.reduceBEq, Int.reduceBNe, Bool.true_bne, Bool.false_bne, Bool.not_true, Bool.not_false] <;> with_reducible rfl); exact trivial)
        | rfl)
      try rfl
    have hdi := List.drop_eq_getElem_cons hi2
    rw [hdi, joinM_cons] at hpre
    generalize hy : L[i] = y at *
    obtain ⟨y1, y2, y3⟩ := y
    have hmy : ∀ o : List Sp, (o ++ [(y1, y2, y3)]).map eSp = o.map eSp ++ [.agg [.str y1, i64 y2, i64 y3]] := fun o => by rw [List.map_append]; rfl
    cases o with
    | none =>
      have hk : decide (((0 : Nat) : Int) - 1 ≥ 0) = false := rfl
      have hk2 : decide ((-1 : Int) ≥ 0) = false := rfl
      have ho : (outM none).length = 0 := rfl
      have ho2 : (outM none).map eSp = [] := rfl
      rw [ho, ho2]
      repeat (first
        | (apply axJ; (focus ((with_reducible constructor) <;> rfl)))
        | (apply awT mixedOK hΓ (by kernel_rfl); (simp (disch := omega) only [go_sem, ↓reduceIte, dk, ↓lk, Int.reduceBEq, Int.reduceBNe, Bool.true_bne, Bool.false_bne, Bool.not_true, Bool.not_false, hy, hk, hk2] <;> with_reducible rfl))
        | ((first | apply awR hΓ | apply awG | apply awH mixedOK hΓ rfl (by kernel_rfl) | apply ovE rfl); (simp (disch := omega) only [go_sem, ↓reduceIte, dk, ↓lk, Int.reduceBEq, Int.reduceBNe, Bool.true_bne, Bool.false_bne, Bool.not_true, Bool.not_false, hy, hk, hk2] <;> with_reducible rfl); exact trivial)
        | rfl)
      exact ⟨(some ([], (y1, y2, y3)), i + 1), ⟨by dsimp only; omega, hpre, by simp [outM]⟩, by dsimp only; omega, Weak.v (by (simp [ConvF, lookV, Conv, ints, outM]; done)) (by (simp (disch := omega) only [TabSub, look, if_pos, if_neg, Obj.refsOK, refsOKs, AV.refsOK, decide_eq_true_eq, Bool.and_true, Bool.and_self, outM] ) <;> ((repeat' apply And.intro) <;> first | exact True.intro | omega | (simp; done) | rfl))⟩
    | some q =>
      obtain ⟨pre, c1, c2, c3⟩ := q
      dsimp only at hpre
      have hO : outM (some (pre, (c1, c2, c3))) = pre ++ [(c1, c2, c3)] := rfl
      rw [hO] at hol ⊢
      have hOl : (pre ++ [(c1, c2, c3)]).length = pre.length + 1 := by simp
      have hOc : ∀ h, (pre ++ [(c1, c2, c3)])[pre.length]'h = (c1, c2, c3) := fun h => by simp
      have hset : ((pre ++ [(c1, c2, c3)]).map eSp).set pre.length (.agg [.str c1, i64 c2, i64 (max c3 y3)]) = (pre ++ [(c1, c2, max c3 y3)]).map eSp := by simp [eSp]
      have hk : decide ((pre.length : Int) ≥ 0) = true := decide_eq_true (by omega)
      have hkk : (((pre.length + 1 : Nat) : Int) - 1) = (pre.length : Int) := by omega
      have hkn : (pre.length : Int).toNat = pre.length := by omega
      generalize hOO : pre ++ [(c1, c2, c3)] = O at *
      rw [hOl] at hol ⊢
      cases ka : (c1 == y1)
      · rw [ka] at hpre
        simp only [Bool.false_and, Bool.false_eq_true, if_false] at hpre
        repeat (first
          | (apply axJ; (focus ((with_reducible constructor) <;> rfl)))
          | (apply awT mixedOK hΓ (by kernel_rfl); (simp (disch := omega) only [go_sem, ↓reduceIte, dk, ↓lk, Int.reduceBEq, Int.reduceBNe, Bool.true_bne, Bool.false_bne, Bool.not_true, Bool.not_false, hy, hk, hkk, hkn, hOl, hOc, ka] <;> with_reducible rfl))
          | ((first | apply awR hΓ | apply awG | apply awH mixedOK hΓ rfl (by kernel_rfl) | apply ovE rfl); (simp (disch := omega) only [go_sem, ↓reduceIte, dk, ↓lk, Int.reduceBEq, Int.reduceBNe, Bool.true_bne, Bool.false_bne, Bool.not_true, Bool.not_false, hy, hk, hkk, hkn, hOl, hOc, ka] <;> with_reducible rfl); exact trivial)
          | rfl)
        exact ⟨(some (O, (y1, y2, y3)), i + 1), ⟨by dsimp only; omega, hpre, by dsimp only; rw [outM_len]; dsimp only; omega⟩, by dsimp only; omega, by dsimp only [outM]; rw [hmy]; exact Weak.v (by (simp [ConvF, lookV, Conv, ints, List.length_append, hOl]; done)) (by (simp (disch := omega) only [TabSub, look, if_pos, if_neg, Obj.refsOK, refsOKs, AV.refsOK, decide_eq_true_eq, Bool.and_true, Bool.and_self, List.length_append, hOl] ) <;> ((repeat' apply And.intro) <;> first | exact True.intro | omega | (simp; done) | rfl))⟩
      cases kb : decide (c3 ≥ y2)
      · rw [ka, kb] at hpre
        simp only [Bool.and_false, Bool.false_eq_true, if_false] at hpre
        repeat (first
          | (apply axJ; (focus ((with_reducible constructor) <;> rfl)))
          | (apply awT mixedOK hΓ (by kernel_rfl); (simp (disch := omega) only [go_sem, ↓reduceIte, dk, ↓lk, Int.reduceBEq, Int.reduceBNe, Bool.true_bne, Bool.false_bne, Bool.not_true, Bool.not_false, hy, hk, hkk, hkn, hOl, hOc, ka, kb] <;> with_reducible rfl))
          | ((first | apply awR hΓ | apply awG | apply awH mixedOK hΓ rfl (by kernel_rfl) | apply ovE rfl); (simp (disch := omega) only [go_sem, ↓reduceIte, dk, ↓lk, Int.reduceBEq, Int.reduceBNe, Bool.true_bne, Bool.false_bne, Bool.not_true, Bool.not_false, hy, hk, hkk, hkn, hOl, hOc, ka, kb] <;> with_reducible rfl); exact trivial)
          | rfl)
        exact ⟨(some (O, (y1, y2, y3)), i + 1), ⟨by dsimp only; omega, hpre, by dsimp only; rw [outM_len]; dsimp only; omega⟩, by dsimp only; omega, by dsimp only [outM]; rw [hmy]; exact Weak.v (by (simp [ConvF, lookV, Conv, ints, List.length_append, hOl]; done)) (by (simp (disch := omega) only [TabSub, look, if_pos, if_neg, Obj.refsOK, refsOKs, AV.refsOK, decide_eq_true_eq, Bool.and_true, Bool.and_self, List.length_append, hOl] ) <;> ((repeat' apply And.intro) <;> first | exact True.intro | omega | (simp; done) | rfl))⟩
      · rw [ka, kb] at hpre
        simp only [Bool.and_self, if_true] at hpre
        (repeat (first | (apply axJ; (focus ((with_reducible constructor) <;> rfl))) | ((first | apply awR hΓ | apply awG | apply ovE rfl); (simp (disch := omega) only [go_sem, ↓reduceIte, dk, ↓lk, Int.reduceBEq, Int.reduceBNe, Bool.true_bne, Bool.false_bne, Bool.not_true, Bool.not_false, hy, hk, hkk, hkn, hOl, hOc, ka, kb] <;> with_reducible rfl); exact trivial) | rfl))
        (apply awp_regf mixedOK hΓ (by kernel_rfl); (simp (disch := omega) only [go_sem, ↓reduceIte, dk, ↓lk, Int.reduceBEq, Int.reduceBNe, Bool.true_bne, Bool.false_bne, Bool.not_true, Bool.not_false, hy, hk, hkk, hkn, hOl, hOc, ka, kb] <;> with_reducible rfl); (simp only [go_sem] <;> with_reducible rfl))
        (repeat (first | (apply axJ; (focus ((with_reducible constructor) <;> rfl))) | ((first | apply awR hΓ | apply awG | apply ovE rfl); (simp (disch := omega) only [go_sem, ↓reduceIte, dk, ↓lk, Int.reduceBEq, Int.reduceBNe, Bool.true_bne, Bool.false_bne, Bool.not_true, Bool.not_false, hy, hk, hkk, hkn, hOl, hOc, ka, kb] <;> with_reducible rfl); exact trivial) | rfl))
        (apply awp_regm (nst := false) (nst' := false) 12 mixedOK hΓ (by kernel_rfl); (simp (disch := omega) only [go_sem, ↓reduceIte, ↓lk, dk, hkn, hOl, hOc, hset, look_upd] <;> with_reducible rfl); (simp (disch := omega) only [go_sem, ↓reduceIte] <;> with_reducible rfl); (focus rfl); (focus rfl); (simp (disch := omega) only [go_sem, ↓reduceIte, ↓lk, dk, hkn, hOl, hOc, hset, look_upd] <;> with_reducible rfl); (focus (first | (simp (disch := omega) only [go_sem, ↓reduceIte, ↓lk, dk, hkn, hOl, hOc, hset, look_upd]; done) | (simp (disch := omega) only [go_sem, ↓reduceIte, ↓lk, dk, hkn, hOl, hOc, hset, look_upd]; omega))); (focus (dsimp only [List.take_succ_cons, List.take_zero]; (repeat (apply same2_cons; (focus (first | (left; decide) | (right; simp (disch := omega) only [go_sem, ↓reduceIte, ↓lk, dk, hkn, hOl, hOc, hset, look_upd]; done))); (simp (disch := omega) only [go_sem, ↓reduceIte, ↓lk, dk, hkn, hOl, hOc, hset, look_upd] <;> with_reducible rfl))); exact same2_nil)); (simp (disch := omega) only [go_sem, ↓reduceIte, ↓lk, dk, hkn, hOl, hOc, hset, look_upd] <;> with_reducible rfl))
        repeat (first
          | (apply axJ; (focus ((with_reducible constructor) <;> rfl)))
          | (apply awT mixedOK hΓ (by kernel_rfl); (simp (disch := omega) only [go_sem, ↓reduceIte, dk, ↓lk, Int.reduceBEq, Int.reduceBNe, Bool.true_bne, Bool.false_bne, Bool.not_true, Bool.not_false] <;> with_reducible rfl))
          | ((first | apply awR hΓ | apply awG | apply awH mixedOK hΓ rfl (by kernel_rfl) | apply ovE rfl); (simp (disch := omega) only [go_sem, ↓reduceIte, dk, ↓lk, Int.reduceBEq, Int.reduceBNe, Bool.true_bne, Bool.false_bne, Bool.not_true, Bool.not_false] <;> with_reducible rfl); exact trivial)
          | rfl)
        exact ⟨(some (pre, (c1, c2, max c3 y3)), i + 1), ⟨by dsimp only; omega, hpre, by dsimp only; rw [outM_len]; dsimp only; omega⟩, by dsimp only; omega, by dsimp only [outM]; exact Weak.v (by (simp [ConvF, lookV, Conv, ints, List.length_append]; done)) (by (simp (disch := omega) only [TabSub, look, if_pos, if_neg, Obj.refsOK, refsOKs, AV.refsOK, decide_eq_true_eq, Bool.and_true, Bool.and_self, List.length_append] ) <;> ((repeat' apply And.intro) <;> first | exact True.intro | omega | (simp; done) | rfl))⟩
  · have hcall : ∀ m, callLoc 3 ⟨[(2, .row 26 3 (l.map eSp))], m⟩ g_delS [.row 2 l.length, .data (.clo 68 [])] = some (.row 3 (keptS l).length, ⟨[(2, .dead), (3, .row 26 3 ((keptS l).map eSp))], 4⟩) := fun m => (callLoc_of (fp := [2]) rfl rfl rfl e2 (by simp)).trans rfl
    generalize keptS l = kf at *
    have hcall2 : ∀ k m, callLoc k ⟨[(2, .dead), (3, .row 26 3 (kf.map eSp))], m⟩ g_sortSp [.row 3 kf.length, .data (.clo 70 [])] = some (.junk, ⟨[(2, .dead), (3, .row 26 3 ((pdqS kf).map eSp))], k⟩) := fun k m => (callLoc_of (fp := [3]) rfl rfl rfl e3 (Nat.le_refl _)).trans rfl
    repeat (first
      | (apply axJ; (focus ((with_reducible constructor) <;> rfl)))
      | (apply awT mixedOK hΓ (by kernel_rfl); (simp (disch := omega) only [go_sem, ↓reduceIte, dk, ↓lk, Int.reduceBEq, Int.reduceBNe, Bool.true_bne, Bool.false_bne, Bool.not_true, Bool.not_false, e1, hcall, hcall2, List.length_map] <;> with_reducible rfl))
      | ((first | apply awR hΓ | apply awG | apply awH mixedOK hΓ rfl (by kernel_rfl) | apply ovE rfl); (simp (disch := omega) only [go_sem, ↓reduceIte, dk, ↓lk, Int.reduceBEq, Int.reduceBNe, Bool.true_bne, Bool.false_bne, Bool.not_true, Bool.not_false, e1, hcall, hcall2, List.length_map] <;> with_reducible rfl); exact trivial)
      | rfl)
    refine awp_weak ((Weak.freeze (o := 3) rfl).trans (show Weak _ _ _ ((frame 61 [(3, .nils), (12, .data (.list ((pdqS kf).map eSp))), (13, .data (i64 kf.length)), (14, .data (i64 ((0 : Nat) : Int)))])) ⟨[], 12⟩ from Weak.v (by (simp [ConvF, lookV, Conv, ints, upd, Heap.set, Heap.get, look, hpl]; done)) (by (simp (disch := omega) only [TabSub, look, if_pos, if_neg, Obj.refsOK, refsOKs, AV.refsOK, decide_eq_true_eq, Bool.and_true, Bool.and_self, upd, Heap.set, Heap.get, look, hpl] ) <;> ((repeat' apply And.intro) <;> first | exact True.intro | omega | (simp; done) | rfl)))) ?_
    refine awp_weak (Weak.nilrowF (i := 3) 26 (sz := 3) (by omega) (by omega) rfl) ?_
    rw [← hpl]
    generalize pdqS kf = L at *
    refine awp_loop_at (X := Option (List Sp × Sp) × Nat) (fun y => (frame 61 [(3, .row 12 (outM y.1).length), (12, .data (.list (L.map eSp))), (13, .data (i64 L.length)), (14, .data (i64 y.2))])) (fun y => [(12, .row 26 3 ((outM y.1).map eSp))]) 13
      (fun y => y.2 ≤ L.length ∧ mgL L = joinM y.1 (L.drop y.2) ∧ (outM y.1).length ≤ y.2) (fun y => L.length - y.2) (none, 0) ⟨Nat.zero_le _, rfl, Nat.le_refl _⟩ (Weak.v (by (simp [ConvF, lookV, Conv, ints, upd, outM]; done)) (by (simp (disch := omega) only [TabSub, look, if_pos, if_neg, Obj.refsOK, refsOKs, AV.refsOK, decide_eq_true_eq, Bool.and_true, Bool.and_self, upd, outM] ) <;> ((repeat' apply And.intro) <;> first | exact True.intro | omega | (simp; done) | rfl))) ?_
    rintro ⟨o, i⟩ ⟨hi, hpre, hol⟩
    (try dsimp only at hi hpre hol ⊢)
    by_cases hi2 : i < L.length
    case neg =>
      have hi3 : i = L.length := by omega
      subst hi3
      rw [List.drop_length, joinM_nil] at hpre
      rw [hpre]
      repeat (first
        | (apply axJ; (focus ((with_reducible constructor) <;> rfl)))
        | (apply awT mixedOK hΓ (by kernel_rfl); (simp (disch := omega) only [go_sem, ↓reduceIte, dk, ↓lk, Int.reduceBEq, Int.reduceBNe, Bool.true_bne, Bool.false_bne, Bool.not_true, Bool.not_false] <;> with_reducible rfl))
        | ((first | apply awR hΓ | apply awG | apply awH mixedOK hΓ rfl (by kernel_rfl) | apply ovE rfl); (simp (disch := omega) only [go_sem, ↓reduceIte, dk, ↓lk, Int.reduceBEq, Int.reduceBNe, Bool.true_bne, Bool.false_bne, Bool.not_true, Bool.not_false] <;> with_reducible rfl); exact trivial)
        | rfl)
      try rfl
    have hdi := List.drop_eq_getElem_cons hi2
    rw [hdi, joinM_cons] at hpre
    generalize hy : L[i] = y at *
    obtain ⟨y1, y2, y3⟩ := y
    have hmy : ∀ o : List Sp, (o ++ [(y1, y2, y3)]).map eSp = o.map eSp ++ [.agg [.str y1, i64 y2, i64 y3]] := fun o => by rw [List.map_append]; rfl
    cases o with
    | none =>
      have hk : decide (((0 : Nat) : Int) - 1 ≥ 0) = false := rfl
      have hk2 : decide ((-1 : Int) ≥ 0) = false := rfl
      have ho : (outM none).length = 0 := rfl
      have ho2 : (outM none).map eSp = [] := rfl
      rw [ho, ho2]
      repeat (first
        | (apply axJ; (focus ((with_reducible constructor) <;> rfl)))
        | (apply awT mixedOK hΓ (by kernel_rfl); (simp (disch := omega) only [go_sem, ↓reduceIte, dk, ↓lk, Int.reduceBEq, Int.reduceBNe, Bool.true_bne, Bool.false_bne, Bool.not_true, Bool.not_false, hy, hk, hk2] <;> with_reducible rfl))
        | ((first | apply awR hΓ | apply awG | apply awH mixedOK hΓ rfl (by kernel_rfl) | apply ovE rfl); (simp (disch := omega) only [go_sem, ↓reduceIte, dk, ↓lk, Int.reduceBEq, Int.reduceBNe, Bool.true_bne, Bool.false_bne, Bool.not_true, Bool.not_false, hy, hk, hk2] <;> with_reducible rfl); exact trivial)
        | rfl)
      exact ⟨(some ([], (y1, y2, y3)), i + 1), ⟨by dsimp only; omega, hpre, by simp [outM]⟩, by dsimp only; omega, Weak.v (by (simp [ConvF, lookV, Conv, ints, outM]; done)) (by (simp (disch := omega) only [TabSub, look, if_pos, if_neg, Obj.refsOK, refsOKs, AV.refsOK, decide_eq_true_eq, Bool.and_true, Bool.and_self, outM] ) <;> ((repeat' apply And.intro) <;> first | exact True.intro | omega | (simp; done) | rfl))⟩
    | some q =>
      obtain ⟨pre, c1, c2, c3⟩ := q
      dsimp only at hpre
      have hO : outM (some (pre, (c1, c2, c3))) = pre ++ [(c1, c2, c3)] := rfl
      rw [hO] at hol ⊢
      have hOl : (pre ++ [(c1, c2, c3)]).length = pre.length + 1 := by simp
      have hOc : ∀ h, (pre ++ [(c1, c2, c3)])[pre.length]'h = (c1, c2, c3) := fun h => by simp
      have hset : ((pre ++ [(c1, c2, c3)]).map eSp).set pre.length (.agg [.str c1, i64 c2, i64 (max c3 y3)]) = (pre ++ [(c1, c2, max c3 y3)]).map eSp := by simp [eSp]
      have hk : decide ((pre.length : Int) ≥ 0) = true := decide_eq_true (by omega)
      have hkk : (((pre.length + 1 : Nat) : Int) - 1) = (pre.length : Int) := by omega
      have hkn : (pre.length : Int).toNat = pre.length := by omega
      generalize hOO : pre ++ [(c1, c2, c3)] = O at *
      rw [hOl] at hol ⊢
      cases ka : (c1 == y1)
      · rw [ka] at hpre
        simp only [Bool.false_and, Bool.false_eq_true, if_false] at hpre
        repeat (first
          | (apply axJ; (focus ((with_reducible constructor) <;> rfl)))
          | (apply awT mixedOK hΓ (by kernel_rfl); (simp (disch := omega) only [go_sem, ↓reduceIte, dk, ↓lk, Int.reduceBEq, Int.reduceBNe, Bool.true_bne, Bool.false_bne, Bool.not_true, Bool.not_false, hy, hk, hkk, hkn, hOl, hOc, ka] <;> with_reducible rfl))
          | ((first | apply awR hΓ | apply awG | apply awH mixedOK hΓ rfl (by kernel_rfl) | apply ovE rfl); (simp (disch := omega) only [go_sem, ↓reduceIte, dk, ↓lk, Int.reduceBEq, Int.reduceBNe, Bool.true_bne, Bool.false_bne, Bool.not_true, Bool.not_false, hy, hk, hkk, hkn, hOl, hOc, ka] <;> with_reducible rfl); exact trivial)
          | rfl)
        exact ⟨(some (O, (y1, y2, y3)), i + 1), ⟨by dsimp only; omega, hpre, by dsimp only; rw [outM_len]; dsimp only; omega⟩, by dsimp only; omega, by dsimp only [outM]; rw [hmy]; exact Weak.v (by (simp [ConvF, lookV, Conv, ints, List.length_append, hOl]; done)) (by (simp (disch := omega) only [TabSub, look, if_pos, if_neg, Obj.refsOK, refsOKs, AV.refsOK, decide_eq_true_eq, Bool.and_true, Bool.and_self, List.length_append, hOl] ) <;> ((repeat' apply And.intro) <;> first | exact True.intro | omega | (simp; done) | rfl))⟩
      cases kb : decide (c3 ≥ y2)
      · rw [ka, kb] at hpre
        simp only [Bool.and_false, Bool.false_eq_true, if_false] at hpre
        repeat (first
          | (apply axJ; (focus ((with_reducible constructor) <;> rfl)))
          | (apply awT mixedOK hΓ (by kernel_rfl); (simp (disch := omega) only [go_sem, ↓reduceIte, dk, ↓lk, Int.reduceBEq, Int.reduceBNe, Bool.true_bne, Bool.false_bne, Bool.not_true, Bool.not_false, hy, hk, hkk, hkn, hOl, hOc, ka, kb] <;> with_reducible rfl))
          | ((first | apply awR hΓ | apply awG | apply awH mixedOK hΓ rfl (by kernel_rfl) | apply ovE rfl); (simp (disch := omega) only [go_sem, ↓reduceIte, dk, ↓lk, Int.reduceBEq, Int.reduceBNe, Bool.true_bne, Bool.false_bne, Bool.not_true, Bool.not_false, hy, hk, hkk, hkn, hOl, hOc, ka, kb] <;> with_reducible rfl); exact trivial)
          | rfl)
        exact ⟨(some (O, (y1, y2, y3)), i + 1), ⟨by dsimp only; omega, hpre, by dsimp only; rw [outM_len]; dsimp only; omega⟩, by dsimp only; omega, by dsimp only [outM]; rw [hmy]; exact Weak.v (by (simp [ConvF, lookV, Conv, ints, List.length_append, hOl]; done)) (by (simp (disch := omega) only [TabSub, look, if_pos, if_neg, Obj.refsOK, refsOKs, AV.refsOK, decide_eq_true_eq, Bool.and_true, Bool.and_self, List.length_append, hOl] ) <;> ((repeat' apply And.intro) <;> first | exact True.intro | omega | (simp; done) | rfl))⟩
      · rw [ka, kb] at hpre
        simp only [Bool.and_self, if_true] at hpre
        (repeat (first | (apply axJ; (focus ((with_reducible constructor) <;> rfl))) | ((first | apply awR hΓ | apply awG | apply ovE rfl); (simp (disch := omega) only [go_sem, ↓reduceIte, dk, ↓lk, Int.reduceBEq, Int.reduceBNe, Bool.true_bne, Bool.false_bne, Bool.not_true, Bool.not_false, hy, hk, hkk, hkn, hOl, hOc, ka, kb] <;> with_reducible rfl); exact trivial) | rfl))
        (apply awp_regf mixedOK hΓ (by kernel_rfl); (simp (disch := omega) only [go_sem, ↓reduceIte, dk, ↓lk, Int.reduceBEq, Int.reduceBNe, Bool.true_bne, Bool.false_bne, Bool.not_true, Bool.not_false, hy, hk, hkk, hkn, hOl, hOc, ka, kb] <;> with_reducible rfl); (simp only [go_sem] <;> with_reducible rfl))
        (repeat (first | (apply axJ; (focus ((with_reducible constructor) <;> rfl))) | ((first | apply awR hΓ | apply awG | apply ovE rfl); (simp (disch := omega) only [go_sem, ↓reduceIte, dk, ↓lk, Int.reduceBEq, Int.reduceBNe, Bool.true_bne, Bool.false_bne, Bool.not_true, Bool.not_false, hy, hk, hkk, hkn, hOl, hOc, ka, kb] <;> with_reducible rfl); exact trivial) | rfl))
        (apply awp_regm (nst := false) (nst' := false) 12 mixedOK hΓ (by kernel_rfl); (simp (disch := omega) only [go_sem, ↓reduceIte, ↓lk, dk, hkn, hOl, hOc, hset, look_upd] <;> with_reducible rfl); (simp (disch := omega) only [go_sem, ↓reduceIte] <;> with_reducible rfl); (focus rfl); (focus rfl); (simp (disch := omega) only [go_sem, ↓reduceIte, ↓lk, dk, hkn, hOl, hOc, hset, look_upd] <;> with_reducible rfl); (focus (first | (simp (disch := omega) only [go_sem, ↓reduceIte, ↓lk, dk, hkn, hOl, hOc, hset, look_upd]; done) | (simp (disch := omega) only [go_sem, ↓reduceIte, ↓lk, dk, hkn, hOl, hOc, hset, look_upd]; omega))); (focus (dsimp only [List.take_succ_cons, List.take_zero]; (repeat (apply same2_cons; (focus (first | (left; decide) | (right; simp (disch := omega) only [go_sem, ↓reduceIte, ↓lk, dk, hkn, hOl, hOc, hset, look_upd]; done))); (simp (disch := omega) only [go_sem, ↓reduceIte, ↓lk, dk, hkn, hOl, hOc, hset, look_upd] <;> with_reducible rfl))); exact same2_nil)); (simp (disch := omega) only [go_sem, ↓reduceIte, ↓lk, dk, hkn, hOl, hOc, hset, look_upd] <;> with_reducible rfl))
        repeat (first
          | (apply axJ; (focus ((with_reducible constructor) <;> rfl)))
          | (apply awT mixedOK hΓ (by kernel_rfl); (simp (disch := omega) only [go_sem, ↓reduceIte, dk, ↓lk, Int.reduceBEq, Int.reduceBNe, Bool.true_bne, Bool.false_bne, Bool.not_true, Bool.not_false] <;> with_reducible rfl))
          | ((first | apply awR hΓ | apply awG | apply awH mixedOK hΓ rfl (by kernel_rfl) | apply ovE rfl); (simp (disch := omega) only [go_sem, ↓reduceIte, dk, ↓lk, Int.reduceBEq, Int.reduceBNe, Bool.true_bne, Bool.false_bne, Bool.not_true, Bool.not_false] <;> with_reducible rfl); exact trivial)
          | rfl)
        exact ⟨(some (pre, (c1, c2, max c3 y3)), i + 1), ⟨by dsimp only; omega, hpre, by dsimp only; rw [outM_len]; dsimp only; omega⟩, by dsimp only; omega, by dsimp only [outM]; exact Weak.v (by (simp [ConvF, lookV, Conv, ints, List.length_append]; done)) (by (simp (disch := omega) only [TabSub, look, if_pos, if_neg, Obj.refsOK, refsOKs, AV.refsOK, decide_eq_true_eq, Bool.and_true, Bool.and_self, List.length_append] ) <;> ((repeat' apply And.intro) <;> first | exact True.intro | omega | (simp; done) | rfl))⟩
end Go.Ab
