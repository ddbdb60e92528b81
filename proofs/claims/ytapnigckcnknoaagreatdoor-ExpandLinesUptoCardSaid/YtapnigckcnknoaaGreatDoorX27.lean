/-
  One text of the proof (own work): contracts of functions of the program, by the abstract machine.
-/
import Derived.Test.YtapnigckcnknoaaGreatDoorX12
import Derived.Test.YtapnigckcnknoaaGreatDoorX23
import Derived.Test.YtapnigckcnknoaaGreatDoorX13
import Derived.Test.YtapnigckcnknoaaGreatDoorX11
set_option linter.unusedVariables false
set_option linter.unusedSimpArgs false
namespace Go.Ab
open Go Go.RowKit Go.Proofs
set_option maxRecDepth 10000
set_option maxHeartbeats 16000000
def addG (done : Bool) (x : Sp) (l : List Sp) : List Sp := if done then addD x l else addN x l
noncomputable def g_addSpR : List D → Option D := encSpec (fun x : (List Sp) × Sp => [.list (x.1.map eSp), eSp x.2]) (fun x : (List Sp) × Sp => x.1.length ≤ 1000000) (fun x : (List Sp) × Sp => .list ((addN x.2 x.1).map eSp))
theorem g_addSpR_eq {l : List Sp} {sp : Sp} (hd : l.length ≤ 1000000) : g_addSpR [.list (l.map eSp), eSp sp] = some (.list ((addN sp l).map eSp)) := encSpec_eq (x := (l, sp)) hd fun y hy => by
    obtain ⟨y0, y1⟩ := y; simp only [List.cons.injEq, and_true, true_and, D.str.injEq, D.int.injEq, D.list.injEq, D.bool.injEq, D.agg.injEq, D.clo.injEq, Int.natCast_inj, inj_ie, D.ref.injEq, eU_e, eWr_e, eWr_ie, eWrs_ie, eTk_ie, eTk_e, eFl_ie, eSp_ie, eSp_e, eMc_e, eMc_ie] at hy
    (try obtain ⟨rfl, rfl⟩ := hy)
    (try subst_vars)
    rfl
theorem f_addSpR_ok : PureOK Tryz.prog 21 false g_addSpR := by
  have hΓ := Γ0_ok
  refine pure_enc (n := 85) (rs := [.tmp 4]) Tryz.func21 (by kernel_rfl) rfl (by kernel_rfl) (by kernel_rfl) ?_
  rintro ⟨l, sp⟩ hd
  (try dsimp only at hd ⊢)
  refine ⟨fun h => (by cases h), fun k hz0 => ?_⟩
  obtain ⟨x1, x2, x3⟩ := sp
  rw [eSp_eq]
  rw [start_frame (by simp)]; simp only [enumV, go_sem, emptyH]
  repeat (first
    | (apply axJ; (focus ((with_reducible constructor) <;> rfl)))
    | (apply awT mixedOK hΓ (by kernel_rfl); (simp (disch := omega) only [go_sem, ↓reduceIte, dk, ↓lk, Int.reduceBEq, Int.reduceBNe, Bool.true_bne, Bool.false_bne, Bool.not_true, Bool.not_false] <;> with_reducible rfl))
    | ((first | apply awR hΓ | apply awG | apply awH mixedOK hΓ rfl (by kernel_rfl) | apply ovE rfl); (simp (disch := omega) only [go_sem, ↓reduceIte, dk, ↓lk, Int.reduceBEq, Int.reduceBNe, Bool.true_bne, Bool.false_bne, Bool.not_true, Bool.not_false] <;> with_reducible rfl); exact trivial)
    | rfl)
  refine awp_weak (Weak.nilrowF (i := 5) 26 (sz := 3) (by omega) (by omega) rfl) ?_
  refine awp_loop_at (X := Bool × Sp × List Sp × Nat) (fun y => (frame 85 [(3, .ptr 0 0), (5, .row 7 y.2.2.1.length), (6, .data (.bool y.1)), (9, .data (.list (l.map eSp))), (10, .data (i64 l.length)), (11, .data (i64 y.2.2.2))])) (fun y => [(0, .box [.data (.str y.2.1.1), .data (i64 y.2.1.2.1), .data (i64 y.2.1.2.2)]), (7, .row 26 3 (y.2.2.1.map eSp))]) 8
    (fun y => y.2.2.2 ≤ l.length ∧ addN (x1, x2, x3) l = y.2.2.1 ++ addG y.1 y.2.1 (l.drop y.2.2.2) ∧ y.2.2.1.length ≤ y.2.2.2 + (if y.1 then 1 else 0)) (fun y => l.length - y.2.2.2) (false, (x1, x2, x3), [], 0) ⟨Nat.zero_le _, rfl, Nat.zero_le _⟩ (Weak.v (by (simp [ConvF, lookV, Conv, ints, upd]; done)) (by (simp (disch := omega) only [TabSub, look, if_pos, if_neg, Obj.refsOK, refsOKs, AV.refsOK, decide_eq_true_eq, Bool.and_true, Bool.and_self, upd] ) <;> ((repeat' apply And.intro) <;> first | exact True.intro | omega | (simp; done) | rfl))) ?_
  rintro ⟨dn, ⟨u1, u2, u3⟩, acc, i⟩ ⟨hi, hpre, hl⟩
  (try dsimp only at hi hpre hl ⊢)
  have hl2 : acc.length ≤ i + 1 := by cases dn <;> simp at hl <;> omega
  by_cases hi2 : i < l.length
  case neg =>
    have hi3 : i = l.length := by omega
    subst hi3
    rw [List.drop_length] at hpre
    rw [hpre]
    cases dn
    · have hm : (acc ++ addG false (u1, u2, u3) []).map eSp = acc.map eSp ++ [.agg [.str u1, i64 u2, i64 u3]] := by rw [List.map_append]; rfl
      rw [hm]
      repeat (first
        | (apply axJ; (focus ((with_reducible constructor) <;> rfl)))
        | (apply awT mixedOK hΓ (by kernel_rfl); (simp (disch := omega) only [go_sem, ↓reduceIte, dk, ↓lk, Int.reduceBEq, Int.reduceBNe, Bool.true_bne, Bool.false_bne, Bool.not_true, Bool.not_false] <;> with_reducible rfl))
        | ((first | apply awR hΓ | apply awG | apply awH mixedOK hΓ rfl (by kernel_rfl) | apply ovE rfl); (simp (disch := omega) only [go_sem, ↓reduceIte, dk, ↓lk, Int.reduceBEq, Int.reduceBNe, Bool.true_bne, Bool.false_bne, Bool.not_true, Bool.not_false] <;> with_reducible rfl); exact trivial)
        | rfl)
      try rfl
    · have hm : (acc ++ addG true (u1, u2, u3) []).map eSp = acc.map eSp := by simp [addG, addD]
      rw [hm]
      repeat (first
        | (apply axJ; (focus ((with_reducible constructor) <;> rfl)))
        | (apply awT mixedOK hΓ (by kernel_rfl); (simp (disch := omega) only [go_sem, ↓reduceIte, dk, ↓lk, Int.reduceBEq, Int.reduceBNe, Bool.true_bne, Bool.false_bne, Bool.not_true, Bool.not_false] <;> with_reducible rfl))
        | ((first | apply awR hΓ | apply awG | apply awH mixedOK hΓ rfl (by kernel_rfl) | apply ovE rfl); (simp (disch := omega) only [go_sem, ↓reduceIte, dk, ↓lk, Int.reduceBEq, Int.reduceBNe, Bool.true_bne, Bool.false_bne, Bool.not_true, Bool.not_false] <;> with_reducible rfl); exact trivial)
        | rfl)
      try rfl
  have hdi := List.drop_eq_getElem_cons hi2
  rw [hdi] at hpre
  generalize hy : l[i] = y at *
  obtain ⟨y1, y2, y3⟩ := y
  have hmy : ∀ o : List Sp, (o ++ [(y1, y2, y3)]).map eSp = o.map eSp ++ [.agg [.str y1, i64 y2, i64 y3]] := fun o => by rw [List.map_append]; rfl
  have hmu : ∀ o : List Sp, (o ++ [(u1, u2, u3)]).map eSp = o.map eSp ++ [.agg [.str u1, i64 u2, i64 u3]] := fun o => by rw [List.map_append]; rfl
  have ht : tch (y1, y2, y3) (u1, u2, u3) = (y1 == u1 && (decide (y2 ≤ u3) && decide (u2 ≤ y3))) := rfl
  have ha : aft (y1, y2, y3) (u1, u2, u3) = (decide (u1 < y1) || (y1 == u1 && decide (y2 > u3))) := rfl
  have hD : addG dn (u1, u2, u3) ((y1, y2, y3) :: l.drop (i + 1)) = if tch (y1, y2, y3) (u1, u2, u3) then addG dn (mrg (y1, y2, y3) (u1, u2, u3)) (l.drop (i + 1)) else if !dn && aft (y1, y2, y3) (u1, u2, u3) then (u1, u2, u3) :: (y1, y2, y3) :: addG true (u1, u2, u3) (l.drop (i + 1)) else (y1, y2, y3) :: addG dn (u1, u2, u3) (l.drop (i + 1)) := by
    unfold addG
    cases dn
    · simp only [Bool.false_eq_true, if_false, Bool.not_false, Bool.true_and]
      rw [addN]
      rfl
    · simp only [if_true, Bool.not_true, Bool.false_and, Bool.false_eq_true, if_false]
      rw [addD]
  rw [hD] at hpre
  have hbl := Go.Proofs.bytesLess_eq y1 u1
  have hb1 : (y1 == u1) = true → Op.bytesLess y1 u1 = false := fun h => by
    rw [hbl, show y1 = u1 by simpa using h]
    exact decide_eq_false (bs_irr _)
  have hb2 : decide (u1 < y1) = true → Op.bytesLess y1 u1 = false := fun h => by
    rw [hbl]
    exact decide_eq_false fun k => bs_irr _ (List.lt_trans k (of_decide_eq_true h))
  have hb3 : (y1 == u1) = false → decide (u1 < y1) = false → Op.bytesLess y1 u1 = true := fun h k => by
    rw [hbl]
    refine decide_eq_true ?_
    by_cases q : y1 < u1
    · exact q
    · exact absurd (List.le_antisymm (List.not_lt.1 (of_decide_eq_false k)) (List.not_lt.1 q)) (by simpa using h)
  cases k1 : (y1 == u1 && (decide (y2 ≤ u3) && decide (u2 ≤ y3)))
  case true =>
    rw [ht, k1] at hpre
    simp only [if_true] at hpre
    simp only [Bool.and_eq_true] at k1
    obtain ⟨a1, a2, a3⟩ := k1
    repeat (first
      | (apply axJ; (focus ((with_reducible constructor) <;> rfl)))
      | (apply awT mixedOK hΓ (by kernel_rfl); (simp (disch := omega) only [go_sem, ↓reduceIte, dk, ↓lk, Int.reduceBEq, Int.reduceBNe, Bool.true_bne, Bool.false_bne, Bool.not_true, Bool.not_false, hy, a1, a2, a3] <;> with_reducible rfl))
      | ((first | apply awR hΓ | apply awG | apply awH mixedOK hΓ rfl (by kernel_rfl) | apply ovE rfl); (simp (disch := omega) only [go_sem, ↓reduceIte, dk, ↓lk, Int.reduceBEq, Int.reduceBNe, Bool.true_bne, Bool.false_bne, Bool.not_true, Bool.not_false, hy, a1, a2, a3] <;> with_reducible rfl); exact trivial)
      | rfl)
    (apply awp_regm (nst := false) (nst' := false) 11 mixedOK hΓ (by kernel_rfl); (simp (disch := omega) only [go_sem, ↓reduceIte, ↓lk, dk, look_upd] <;> with_reducible rfl); (simp (disch := omega) only [go_sem, ↓reduceIte] <;> with_reducible rfl); (focus rfl); (focus rfl); (simp (disch := omega) only [go_sem, ↓reduceIte, ↓lk, dk, look_upd] <;> with_reducible rfl); (focus (first | (simp (disch := omega) only [go_sem, ↓reduceIte, ↓lk, dk, look_upd]; done) | (simp (disch := omega) only [go_sem, ↓reduceIte, ↓lk, dk, look_upd]; omega))); (focus (dsimp only [List.take_succ_cons, List.take_zero]; (repeat (apply same2_cons; (focus (first | (left; decide) | (right; simp (disch := omega) only [go_sem, ↓reduceIte, ↓lk, dk, look_upd]; done))); (simp (disch := omega) only [go_sem, ↓reduceIte, ↓lk, dk, look_upd] <;> with_reducible rfl))); exact same2_nil)); (simp (disch := omega) only [go_sem, ↓reduceIte, ↓lk, dk, look_upd] <;> with_reducible rfl))
    repeat (first
      | (apply axJ; (focus ((with_reducible constructor) <;> rfl)))
      | (apply awT mixedOK hΓ (by kernel_rfl); (simp (disch := omega) only [go_sem, ↓reduceIte, dk, ↓lk, Int.reduceBEq, Int.reduceBNe, Bool.true_bne, Bool.false_bne, Bool.not_true, Bool.not_false] <;> with_reducible rfl))
      | ((first | apply awR hΓ | apply awG | apply awH mixedOK hΓ rfl (by kernel_rfl) | apply ovE rfl); (simp (disch := omega) only [go_sem, ↓reduceIte, dk, ↓lk, Int.reduceBEq, Int.reduceBNe, Bool.true_bne, Bool.false_bne, Bool.not_true, Bool.not_false] <;> with_reducible rfl); exact trivial)
      | rfl)
    exact ⟨(dn, mrg (y1, y2, y3) (u1, u2, u3), acc, i + 1), ⟨by dsimp only; omega, hpre, by dsimp only; omega⟩, by dsimp only; omega, by unfold mrg; exact Weak.w⟩
  rw [ht, k1] at hpre
  simp only [Bool.false_eq_true, if_false] at hpre
  have hk1 : ∀ {P : Prop}, (y1 == u1) = true → decide (y2 ≤ u3) = true → decide (u2 ≤ y3) = true → P := fun a b c => by rw [a, b, c] at k1; cases k1
  cases hA : (!dn && (decide (u1 < y1) || (y1 == u1 && decide (y2 > u3))))
  case true =>
    rw [ha, hA] at hpre
    simp only [if_true] at hpre
    have hdn : dn = false := by
      cases dn
      · rfl
      · cases hA
    subst hdn
    simp only [Bool.not_false, Bool.true_and] at hA
    cases a4 : decide (u1 < y1)
    · rw [a4] at hA
      simp only [Bool.false_or, Bool.and_eq_true] at hA
      obtain ⟨a1, a5⟩ := hA
      have hbv := hb1 a1
      have a2 : decide (y2 ≤ u3) = false := decide_eq_false (by have := of_decide_eq_true a5; omega)
      repeat (first
        | (apply axJ; (focus ((with_reducible constructor) <;> rfl)))
        | (apply awT mixedOK hΓ (by kernel_rfl); (simp (disch := omega) only [go_sem, ↓reduceIte, dk, ↓lk, Int.reduceBEq, Int.reduceBNe, Bool.true_bne, Bool.false_bne, Bool.not_true, Bool.not_false, hy, hbv, Bool.or_true, Bool.or_false, Bool.true_or, Bool.false_or, a1, a2, a5] <;> with_reducible rfl))
        | ((first | apply awR hΓ | apply awG | apply awH mixedOK hΓ rfl (by kernel_rfl) | apply ovE rfl); (simp (disch := omega) only [go_sem, ↓reduceIte, dk, ↓lk, Int.reduceBEq, Int.reduceBNe, Bool.true_bne, Bool.false_bne, Bool.not_true, Bool.not_false, hy, hbv, Bool.or_true, Bool.or_false, Bool.true_or, Bool.false_or, a1, a2, a5] <;> with_reducible rfl); exact trivial)
        | rfl)
      exact ⟨(true, (u1, u2, u3), acc ++ [(u1, u2, u3)] ++ [(y1, y2, y3)], i + 1), ⟨by dsimp only; omega, by dsimp only; rw [hpre]; simp, by dsimp only; rw [List.length_append, List.length_append]; simp only [List.length_cons, List.length_nil]; simp at hl; simp; omega⟩, by dsimp only; omega, by dsimp only; rw [hmy, hmu]; exact Weak.v (by (simp [ConvF, lookV, Conv, ints, List.length_append]; done)) (by (simp (disch := omega) only [TabSub, look, if_pos, if_neg, Obj.refsOK, refsOKs, AV.refsOK, decide_eq_true_eq, Bool.and_true, Bool.and_self, List.length_append] ) <;> ((repeat' apply And.intro) <;> first | exact True.intro | omega | (simp; done) | rfl))⟩
    · have hbv := hb2 a4
      have a1 : (y1 == u1) = false := by
        rw [beq_eq_false_iff_ne]
        intro e
        rw [e] at a4
        exact bs_irr _ (of_decide_eq_true a4)
      repeat (first
        | (apply axJ; (focus ((with_reducible constructor) <;> rfl)))
        | (apply awT mixedOK hΓ (by kernel_rfl); (simp (disch := omega) only [go_sem, ↓reduceIte, dk, ↓lk, Int.reduceBEq, Int.reduceBNe, Bool.true_bne, Bool.false_bne, Bool.not_true, Bool.not_false, hy, hbv, Bool.or_true, Bool.or_false, Bool.true_or, Bool.false_or, a1] <;> with_reducible rfl))
        | ((first | apply awR hΓ | apply awG | apply awH mixedOK hΓ rfl (by kernel_rfl) | apply ovE rfl); (simp (disch := omega) only [go_sem, ↓reduceIte, dk, ↓lk, Int.reduceBEq, Int.reduceBNe, Bool.true_bne, Bool.false_bne, Bool.not_true, Bool.not_false, hy, hbv, Bool.or_true, Bool.or_false, Bool.true_or, Bool.false_or, a1] <;> with_reducible rfl); exact trivial)
        | rfl)
      exact ⟨(true, (u1, u2, u3), acc ++ [(u1, u2, u3)] ++ [(y1, y2, y3)], i + 1), ⟨by dsimp only; omega, by dsimp only; rw [hpre]; simp, by dsimp only; rw [List.length_append, List.length_append]; simp only [List.length_cons, List.length_nil]; simp at hl; simp; omega⟩, by dsimp only; omega, by dsimp only; rw [hmy, hmu]; exact Weak.v (by (simp [ConvF, lookV, Conv, ints, List.length_append]; done)) (by (simp (disch := omega) only [TabSub, look, if_pos, if_neg, Obj.refsOK, refsOKs, AV.refsOK, decide_eq_true_eq, Bool.and_true, Bool.and_self, List.length_append] ) <;> ((repeat' apply And.intro) <;> first | exact True.intro | omega | (simp; done) | rfl))⟩
  rw [ha, hA] at hpre
  simp only [Bool.false_eq_true, if_false] at hpre
  cases dn
  · simp only [Bool.not_false, Bool.true_and, Bool.or_eq_false_iff] at hA
    obtain ⟨a4, a5⟩ := hA
    cases a1 : (y1 == u1)
    · have hbv := hb3 a1 a4
      repeat (first
        | (apply axJ; (focus ((with_reducible constructor) <;> rfl)))
        | (apply awT mixedOK hΓ (by kernel_rfl); (simp (disch := omega) only [go_sem, ↓reduceIte, dk, ↓lk, Int.reduceBEq, Int.reduceBNe, Bool.true_bne, Bool.false_bne, Bool.not_true, Bool.not_false, hy, hbv, Bool.or_true, Bool.or_false, Bool.true_or, Bool.false_or, a1] <;> with_reducible rfl))
        | ((first | apply awR hΓ | apply awG | apply awH mixedOK hΓ rfl (by kernel_rfl) | apply ovE rfl); (simp (disch := omega) only [go_sem, ↓reduceIte, dk, ↓lk, Int.reduceBEq, Int.reduceBNe, Bool.true_bne, Bool.false_bne, Bool.not_true, Bool.not_false, hy, hbv, Bool.or_true, Bool.or_false, Bool.true_or, Bool.false_or, a1] <;> with_reducible rfl); exact trivial)
        | rfl)
      exact ⟨(false, (u1, u2, u3), acc ++ [(y1, y2, y3)], i + 1), ⟨by dsimp only; omega, by dsimp only; rw [hpre]; simp, by dsimp only; rw [List.length_append]; simp only [List.length_cons, List.length_nil]; simp at hl; simp; omega⟩, by dsimp only; omega, by dsimp only; rw [hmy]; exact Weak.v (by (simp [ConvF, lookV, Conv, ints, List.length_append]; done)) (by (simp (disch := omega) only [TabSub, look, if_pos, if_neg, Obj.refsOK, refsOKs, AV.refsOK, decide_eq_true_eq, Bool.and_true, Bool.and_self, List.length_append] ) <;> ((repeat' apply And.intro) <;> first | exact True.intro | omega | (simp; done) | rfl))⟩
    · rw [a1, Bool.true_and] at a5
      have hbv := hb1 a1
      cases a2 : decide (y2 ≤ u3)
      · repeat (first
        | (apply axJ; (focus ((with_reducible constructor) <;> rfl)))
        | (apply awT mixedOK hΓ (by kernel_rfl); (simp (disch := omega) only [go_sem, ↓reduceIte, dk, ↓lk, Int.reduceBEq, Int.reduceBNe, Bool.true_bne, Bool.false_bne, Bool.not_true, Bool.not_false, hy, hbv, Bool.or_true, Bool.or_false, Bool.true_or, Bool.false_or, a1, a2, a5] <;> with_reducible rfl))
        | ((first | apply awR hΓ | apply awG | apply awH mixedOK hΓ rfl (by kernel_rfl) | apply ovE rfl); (simp (disch := omega) only [go_sem, ↓reduceIte, dk, ↓lk, Int.reduceBEq, Int.reduceBNe, Bool.true_bne, Bool.false_bne, Bool.not_true, Bool.not_false, hy, hbv, Bool.or_true, Bool.or_false, Bool.true_or, Bool.false_or, a1, a2, a5] <;> with_reducible rfl); exact trivial)
        | rfl)
        exact ⟨(false, (u1, u2, u3), acc ++ [(y1, y2, y3)], i + 1), ⟨by dsimp only; omega, by dsimp only; rw [hpre]; simp, by dsimp only; rw [List.length_append]; simp only [List.length_cons, List.length_nil]; simp at hl; simp; omega⟩, by dsimp only; omega, by dsimp only; rw [hmy]; exact Weak.v (by (simp [ConvF, lookV, Conv, ints, List.length_append]; done)) (by (simp (disch := omega) only [TabSub, look, if_pos, if_neg, Obj.refsOK, refsOKs, AV.refsOK, decide_eq_true_eq, Bool.and_true, Bool.and_self, List.length_append] ) <;> ((repeat' apply And.intro) <;> first | exact True.intro | omega | (simp; done) | rfl))⟩
      cases a3 : decide (u2 ≤ y3)
      · repeat (first
        | (apply axJ; (focus ((with_reducible constructor) <;> rfl)))
        | (apply awT mixedOK hΓ (by kernel_rfl); (simp (disch := omega) only [go_sem, ↓reduceIte, dk, ↓lk, Int.reduceBEq, Int.reduceBNe, Bool.true_bne, Bool.false_bne, Bool.not_true, Bool.not_false, hy, hbv, Bool.or_true, Bool.or_false, Bool.true_or, Bool.false_or, a1, a2, a3, a5] <;> with_reducible rfl))
        | ((first | apply awR hΓ | apply awG | apply awH mixedOK hΓ rfl (by kernel_rfl) | apply ovE rfl); (simp (disch := omega) only [go_sem, ↓reduceIte, dk, ↓lk, Int.reduceBEq, Int.reduceBNe, Bool.true_bne, Bool.false_bne, Bool.not_true, Bool.not_false, hy, hbv, Bool.or_true, Bool.or_false, Bool.true_or, Bool.false_or, a1, a2, a3, a5] <;> with_reducible rfl); exact trivial)
        | rfl)
        exact ⟨(false, (u1, u2, u3), acc ++ [(y1, y2, y3)], i + 1), ⟨by dsimp only; omega, by dsimp only; rw [hpre]; simp, by dsimp only; rw [List.length_append]; simp only [List.length_cons, List.length_nil]; simp at hl; simp; omega⟩, by dsimp only; omega, by dsimp only; rw [hmy]; exact Weak.v (by (simp [ConvF, lookV, Conv, ints, List.length_append]; done)) (by (simp (disch := omega) only [TabSub, look, if_pos, if_neg, Obj.refsOK, refsOKs, AV.refsOK, decide_eq_true_eq, Bool.and_true, Bool.and_self, List.length_append] ) <;> ((repeat' apply And.intro) <;> first | exact True.intro | omega | (simp; done) | rfl))⟩
      exact hk1 a1 a2 a3
  · cases a1 : (y1 == u1)
    · repeat (first
      | (apply axJ; (focus ((with_reducible constructor) <;> rfl)))
      | (apply awT mixedOK hΓ (by kernel_rfl); (simp (disch := omega) only [go_sem, ↓reduceIte, dk, ↓lk, Int.reduceBEq, Int.reduceBNe, Bool.true_bne, Bool.false_bne, Bool.not_true, Bool.not_false, hy, Bool.or_true, Bool.or_false, Bool.true_or, Bool.false_or, a1] <;> with_reducible rfl))
      | ((first | apply awR hΓ | apply awG | apply awH mixedOK hΓ rfl (by kernel_rfl) | apply ovE rfl); (simp (disch := omega) only [go_sem, ↓reduceIte, dk, ↓lk, Int.reduceBEq, Int.reduceBNe, Bool.true_bne, Bool.false_bne, Bool.not_true, Bool.not_false, hy, Bool.or_true, Bool.or_false, Bool.true_or, Bool.false_or, a1] <;> with_reducible rfl); exact trivial)
      | rfl)
      exact ⟨(true, (u1, u2, u3), acc ++ [(y1, y2, y3)], i + 1), ⟨by dsimp only; omega, by dsimp only; rw [hpre]; simp, by dsimp only; rw [List.length_append]; simp only [List.length_cons, List.length_nil]; simp at hl; simp; omega⟩, by dsimp only; omega, by dsimp only; rw [hmy]; exact Weak.v (by (simp [ConvF, lookV, Conv, ints, List.length_append]; done)) (by (simp (disch := omega) only [TabSub, look, if_pos, if_neg, Obj.refsOK, refsOKs, AV.refsOK, decide_eq_true_eq, Bool.and_true, Bool.and_self, List.length_append] ) <;> ((repeat' apply And.intro) <;> first | exact True.intro | omega | (simp; done) | rfl))⟩
    · cases a2 : decide (y2 ≤ u3)
      · repeat (first
        | (apply axJ; (focus ((with_reducible constructor) <;> rfl)))
        | (apply awT mixedOK hΓ (by kernel_rfl); (simp (disch := omega) only [go_sem, ↓reduceIte, dk, ↓lk, Int.reduceBEq, Int.reduceBNe, Bool.true_bne, Bool.false_bne, Bool.not_true, Bool.not_false, hy, Bool.or_true, Bool.or_false, Bool.true_or, Bool.false_or, a1, a2] <;> with_reducible rfl))
        | ((first | apply awR hΓ | apply awG | apply awH mixedOK hΓ rfl (by kernel_rfl) | apply ovE rfl); (simp (disch := omega) only [go_sem, ↓reduceIte, dk, ↓lk, Int.reduceBEq, Int.reduceBNe, Bool.true_bne, Bool.false_bne, Bool.not_true, Bool.not_false, hy, Bool.or_true, Bool.or_false, Bool.true_or, Bool.false_or, a1, a2] <;> with_reducible rfl); exact trivial)
        | rfl)
        exact ⟨(true, (u1, u2, u3), acc ++ [(y1, y2, y3)], i + 1), ⟨by dsimp only; omega, by dsimp only; rw [hpre]; simp, by dsimp only; rw [List.length_append]; simp only [List.length_cons, List.length_nil]; simp at hl; simp; omega⟩, by dsimp only; omega, by dsimp only; rw [hmy]; exact Weak.v (by (simp [ConvF, lookV, Conv, ints, List.length_append]; done)) (by (simp (disch := omega) only [TabSub, look, if_pos, if_neg, Obj.refsOK, refsOKs, AV.refsOK, decide_eq_true_eq, Bool.and_true, Bool.and_self, List.length_append] ) <;> ((repeat' apply And.intro) <;> first | exact True.intro | omega | (simp; done) | rfl))⟩
      cases a3 : decide (u2 ≤ y3)
      · repeat (first
        | (apply axJ; (focus ((with_reducible constructor) <;> rfl)))
        | (apply awT mixedOK hΓ (by kernel_rfl); (simp (disch := omega) only [go_sem, ↓reduceIte, dk, ↓lk, Int.reduceBEq, Int.reduceBNe, Bool.true_bne, Bool.false_bne, Bool.not_true, Bool.not_false, hy, Bool.or_true, Bool.or_false, Bool.true_or, Bool.false_or, a1, a2, a3] <;> with_reducible rfl))
        | ((first | apply awR hΓ | apply awG | apply awH mixedOK hΓ rfl (by kernel_rfl) | apply ovE rfl); (simp (disch := omega) only [go_sem, ↓reduceIte, dk, ↓lk, Int.reduceBEq, Int.reduceBNe, Bool.true_bne, Bool.false_bne, Bool.not_true, Bool.not_false, hy, Bool.or_true, Bool.or_false, Bool.true_or, Bool.false_or, a1, a2, a3] <;> with_reducible rfl); exact trivial)
        | rfl)
        exact ⟨(true, (u1, u2, u3), acc ++ [(y1, y2, y3)], i + 1), ⟨by dsimp only; omega, by dsimp only; rw [hpre]; simp, by dsimp only; rw [List.length_append]; simp only [List.length_cons, List.length_nil]; simp at hl; simp; omega⟩, by dsimp only; omega, by dsimp only; rw [hmy]; exact Weak.v (by (simp [ConvF, lookV, Conv, ints, List.length_append]; done)) (by (simp (disch := omega) only [TabSub, look, if_pos, if_neg, Obj.refsOK, refsOKs, AV.refsOK, decide_eq_true_eq, Bool.and_true, Bool.and_self, List.length_append] ) <;> ((repeat' apply And.intro) <;> first | exact True.intro | omega | (simp; done) | rfl))⟩
      exact hk1 a1 a2 a3
end Go.Ab
namespace Go.Ab
open Go Go.RowKit
theorem Weak.nilarr {b : Nat} {sl : List AV} {H : Heap} {i : Nat} (e : TypeId) {sz : Nat} (hsz : 0 < sz) (hi : sl[i]? = some .nils) : Weak b sl H (sl.set i (.row H.next 0)) ⟨upd H.tab H.next (.arr e sz 0 []), H.next + 1⟩ := fun c θ w a hc hs => by
  have hk := hs.fresh
  obtain ⟨hlt, hxi⟩ := List.getElem?_eq_some_iff.1 hi
  have hrow : ownsM w w.heap.size e sz (.slice none 0 0) 0 [] := ⟨by simp, .inl ⟨rfl, rfl⟩⟩
  have h := hs.st.sim.add (w' := w) (k := H.next) (x := .arr e sz 0 []) (val := .slice none 0 0) hk (fun _ _ => rfl) (Nat.le_refl _) (fun b hb => by simp [blk] at hb)
    (fun hvr => ⟨hsz, by simp, [], ownsRow_base hrow (Nat.zero_le _), fun b hb => by simp [blk] at hb, fun i hi => by simp at hi⟩)
  have hst : St c (H.set H.next (.arr e sz 0 [])) (updθ θ H.next (.slice none 0 0)) w (sl.set i (.row H.next 0)) a := by
    refine ⟨h.1, hs.st.defers, by simp [hs.st.size], fun j x v hx hv => ?_⟩
    rw [List.getElem?_set] at hx
    by_cases hij : i = j
    · subst hij
      rw [if_pos rfl, if_pos hlt] at hx
      cases hx
      have hv' := hs.st.vals i .nils v hi hv
      cases hv'
      refine .row _ _ _ rfl (.inr (by rw [Heap.get_set, if_pos rfl]; rfl)) (fun x' m' hx' hm' => ?_)
      rw [Heap.get_set, if_pos rfl] at hx'
      cases hx'
      cases hm'
      exact ⟨Nat.le_refl _, fun _ => by simp [updθ]⟩
    · rw [if_neg hij] at hx
      exact h.2.1 x v (hs.st.vals j x v hx hv)
  have hbase := hs.base
  refine ⟨_, ⟨hst.bump (n := H.next + 1) (by simp [Heap.set]), fun p hp => ?_, Nat.le_succ_of_le hbase⟩, (h.2.2.trans (HLe.bump (n := H.next + 1) (by simp [Heap.set]))).evo (by rw [← hc]; exact hbase)⟩
  have hp' : ((H.set H.next (.arr e sz 0 [])).get p).isSome := hp
  rw [Heap.get_set] at hp'
  by_cases h : p = H.next
  · subst h; exact Nat.lt_succ_self _
  · rw [if_neg h] at hp'
    have := hs.wf p hp'
    exact Nat.lt_succ_of_lt this
theorem Weak.nilarrF {b m i n : Nat} {t : List (Nat × AV)} {tab : List (Nat × Obj)} (e : TypeId) {sz : Nat} (hsz : 0 < sz) (him : i < m) (hi : lookV t i = .nils) : Weak b (frame m t) ⟨tab, n⟩ (frame m ((i, .row n 0) :: t)) ⟨upd tab n (.arr e sz 0 []), n + 1⟩ := by
  have h := Weak.nilarr (b := b) (sl := frame m t) (H := ⟨tab, n⟩) (i := i) e hsz (by rw [frame_at, if_pos him, hi])
  rw [frame_set, if_pos him] at h
  exact h
end Go.Ab
