/-
  One text of the proof (own work): contracts of functions of the program, by the abstract machine.
-/
import Derived.Test.YtapnigckcnknoaaGreatDoorX12
import Derived.Test.YtapnigckcnknoaaGreatDoorX22
import Derived.Test.YtapnigckcnknoaaGreatDoorX13
import Derived.Test.YtapnigckcnknoaaGreatDoorX11
import Derived.Test.YtapnigckcnknoaaGreatDoorX21
import Derived.Test.YtapnigckcnknoaaGreatDoorX23
import Derived.Test.YtapnigckcnknoaaGreatDoorX24
set_option linter.unusedVariables false
set_option linter.unusedSimpArgs false
namespace Go.Ab
open Go Go.RowKit Go.Proofs
set_option maxRecDepth 10000
set_option maxHeartbeats 16000000
def addG (done : Bool) (x : Sp) (l : List Sp) : List Sp := if done then addD x l else addN x l
noncomputable def g_addSpR : List D → Option D := encSpec (fun x : (List Sp) × Sp => [.list (x.1.map eSp), eSp x.2]) (fun x : (List Sp) × Sp => x.1.length ≤ 1000000) (fun x : (List Sp) × Sp => .list ((addN x.2 x.1).map eSp))
theorem g_addSpR_eq {l : List Sp} {sp : Sp} (hd : l.length ≤ 1000000) : g_addSpR [.list (l.map eSp), eSp sp] = some (.list ((addN sp l).map eSp)) := encSpec_eq (x := (l, sp)) hd fun y hy => by
    obtain ⟨y0, y1⟩ := y; simp only [List.cons.injEq, and_true, true_and, D.str.injEq, D.int.injEq, D.list.injEq, D.bool.injEq, D.agg.injEq, D.clo.injEq, Int.natCast_inj, inj_ie, D.ref.injEq, eU_e, eWr_e, eWr_ie, eWrs_ie, eTk_ie, eTk_e, eFl_ie, eSp_ie, eSp_e, eMc_e, eMc_ie] at hy
    (try obtain ⟨rfl, rfl⟩ := hy)
    (try subst_vars)
    rfl
theorem f_addSpR_ok : PureOK Tryz.prog 21 false g_addSpR := by
  have hΓ := Γ0_ok
  refine pure_enc (n := 85) (rs := [.tmp 4]) Tryz.func21 (by kernel_rfl) rfl (by kernel_rfl) (by kernel_rfl) ?_
  rintro ⟨l, sp⟩ hd
  (try dsimp only at hd ⊢)
  refine ⟨fun h => (by cases h), fun k hz0 => ?_⟩
  obtain ⟨x1, x2, x3⟩ := sp
  rw [eSp_eq]
  rw [start_frame (by simp)]; simp only [enumV, go_sem, emptyH]
  repeat (first
    | (apply axJ; (focus ((with_reducible constructor) <;> rfl)))
    | (apply awT mixedOK hΓ (by kernel_rfl); (simp (disch := omega) only [go_sem, ↓reduceIte, dk, ↓lk, Int.reduceBEq, Int.reduceBNe, Bool.true_bne, Bool.false_bne, Bool.not_true, Bool.not_false] <;> with_reducible rfl))
    | ((first | apply awR hΓ | apply awG | apply awH mixedOK hΓ rfl (by kernel_rfl) | apply ovE rfl); (simp (disch := omega) only [go_sem, ↓reduceIte, dk, ↓lk, Int.reduceBEq, Int.reduceBNe, Bool.true_bne, Bool.false_bne, Bool.not_true, Bool.not_false] <;> with_reducible rfl); exact trivial)
    | rfl)
  refine awp_weak (Weak.nilrowF (i := 5) 26 (sz := 3) (by omega) (by omega) rfl) ?_
  refine awp_loop_at (X := Bool × Sp × List Sp × Nat) (fun y => (frame 85 [(3, .ptr 0 0), (5, .row 7 y.2.2.1.length), (6, .data (.bool y.1)), (9, .data (.list (l.map eSp))), (10, .data (i64 l.length)), (11, .data (i64 y.2.2.2))])) (fun y => [(0, .box [.data (.str y.2.1.1), .data (i64 y.2.1.2.1), .data (i64 y.2.1.2.2)]), (7, .row 26 3 (y.2.2.1.map eSp))]) 8
    (fun y => y.2.2.2 ≤ l.length ∧ addN (x1, x2, x3) l = y.2.2.1 ++ addG y.1 y.2.1 (l.drop y.2.2.2) ∧ y.2.2.1.length ≤ y.2.2.2 + (if y.1 then 1 else 0)) (fun y => l.length - y.2.2.2) (false, (x1, x2, x3), [], 0) ⟨Nat.zero_le _, rfl, Nat.zero_le _⟩ (Weak.v (by (simp [ConvF, lookV, Conv, ints, upd]; done)) (by (simp (disch := omega) only [TabSub, look, if_pos, if_neg, Obj.refsOK, refsOKs, AV.refsOK, decide_eq_true_eq, Bool.and_true, Bool.and_self, upd] ) <;> ((repeat' apply And.intro) <;> first | exact True.intro | omega | (simp; done) | rfl))) ?_
  rintro ⟨dn, ⟨u1, u2, u3⟩, acc, i⟩ ⟨hi, hpre, hl⟩
  (try dsimp only at hi hpre hl ⊢)
  have hl2 : acc.length ≤ i + 1 := by cases dn <;> simp at hl <;> omega
  by_cases hi2 : i < l.length
  case neg =>
    have hi3 : i = l.length := by omega
    subst hi3
    rw [List.drop_length] at hpre
    rw [hpre]
    cases dn
    · have hm : (acc ++ addG false (u1, u2, u3) []).map eSp = acc.map eSp ++ [.agg [.str u1, i64 u2, i64 u3]] := by rw [List.map_append]; rfl
      rw [hm]
      repeat (first
        | (apply axJ; (focus ((with_reducible constructor) <;> rfl)))
        | (apply awT mixedOK hΓ (by kernel_rfl); (simp (disch := omega) only [go_sem, ↓reduceIte, dk, ↓lk, Int.reduceBEq, Int.reduceBNe, Bool.true_bne, Bool.false_bne, Bool.not_true, Bool.not_false] <;> with_reducible rfl))
        | ((first | apply awR hΓ | apply awG | apply awH mixedOK hΓ rfl (by kernel_rfl) | apply ovE rfl); (simp (disch := omega) only [go_sem, ↓reduceIte, dk, ↓lk, Int.reduceBEq, Int.reduceBNe, Bool.true_bne, Bool.false_bne, Bool.not_true, Bool.not_false] <;> with_reducible rfl); exact trivial)
        | rfl)
      try rfl
    · have hm : (acc ++ addG true (u1, u2, u3) []).map eSp = acc.map eSp := by simp [addG, addD]
      rw [hm]
      repeat (first
        | (apply axJ; (focus ((with_reducible constructor) <;> rfl)))
        | (apply awT mixedOK hΓ (by kernel_rfl); (simp (disch := omega) only [go_sem, ↓reduceIte, dk, ↓lk, Int.reduceBEq, Int.reduceBNe, Bool.true_bne, Bool.false_bne, Bool.not_true, Bool.not_false] <;> with_reducible rfl))
        | ((first | apply awR hΓ | apply awG | apply awH mixedOK hΓ rfl (by kernel_rfl) | apply ovE rfl); (simp (disch := omega) only [go_sem, ↓reduceIte, dk, ↓lk, Int.reduceBEq, Int.reduceBNe, Bool.true_bne, Bool.false_bne, Bool.not_true, Bool.not_false] <;> with_reducible rfl); exact trivial)
        | rfl)
      try rfl
  have hdi := List.drop_eq_getElem_cons hi2
  rw [hdi] at hpre
  generalize hy : l[i] = y at *
  obtain ⟨y1, y2, y3⟩ := y
  have hmy : ∀ o : List Sp, (o ++ [(y1, y2, y3)]).map eSp = o.map eSp ++ [.agg [.str y1, i64 y2, i64 y3]] := fun o => by rw [List.map_append]; rfl
  have hmu : ∀ o : List Sp, (o ++ [(u1, u2, u3)]).map eSp = o.map eSp ++ [.agg [.str u1, i64 u2, i64 u3]] := fun o => by rw [List.map_append]; rfl
  have ht : tch (y1, y2, y3) (u1, u2, u3) = (y1 == u1 && (decide (y2 ≤ u3) && decide (u2 ≤ y3))) := rfl
  have ha : aft (y1, y2, y3) (u1, u2, u3) = (decide (u1 < y1) || (y1 == u1 && decide (y2 > u3))) := rfl
  have hD : addG dn (u1, u2, u3) ((y1, y2, y3) :: l.drop (i + 1)) = if tch (y1, y2, y3) (u1, u2, u3) then addG dn (mrg (y1, y2, y3) (u1, u2, u3)) (l.drop (i + 1)) else if !dn && aft (y1, y2, y3) (u1, u2, u3) then (u1, u2, u3) :: (y1, y2, y3) :: addG true (u1, u2, u3) (l.drop (i + 1)) else (y1, y2, y3) :: addG dn (u1, u2, u3) (l.drop (i + 1)) := by
    unfold addG
    cases dn
    · simp only [Bool.false_eq_true, if_false, Bool.not_false, Bool.true_and]
      rw [addN]
      rfl
    · simp only [if_true, Bool.not_true, Bool.false_and, Bool.false_eq_true, if_false]
      rw [addD]
  rw [hD] at hpre
  have hbl := Go.Proofs.bytesLess_eq y1 u1
  have hb1 : (y1 == u1) = true → Op.bytesLess y1 u1 = false := fun h => by
    rw [hbl, show y1 = u1 by simpa using h]
    exact decide_eq_false (bs_irr _)
  have hb2 : decide (u1 < y1) = true → Op.bytesLess y1 u1 = false := fun h => by
    rw [hbl]
    exact decide_eq_false fun k => bs_irr _ (List.lt_trans k (of_decide_eq_true h))
  have hb3 : (y1 == u1) = false → decide (u1 < y1) = false → Op.bytesLess y1 u1 = true := fun h k => by
    rw [hbl]
    refine decide_eq_true ?_
    by_cases q : y1 < u1
    · exact q
    · exact absurd (List.le_antisymm (List.not_lt.1 (of_decide_eq_false k)) (List.not_lt.1 q)) (by simpa using h)
  cases k1 : (y1 == u1 && (decide (y2 ≤ u3) && decide (u2 ≤ y3)))
  case true =>
    rw [ht, k1] at hpre
    simp only [if_true] at hpre
    simp only [Bool.and_eq_true] at k1
    obtain ⟨a1, a2, a3⟩ := k1
    repeat (first
      | (apply axJ; (focus ((with_reducible constructor) <;> rfl)))
      | (apply awT mixedOK hΓ (by kernel_rfl); (simp (disch := omega) only [go_sem, ↓reduceIte, dk, ↓lk, Int.reduceBEq, Int.reduceBNe, Bool.true_bne, Bool.false_bne, Bool.not_true, Bool.not_false, hy, a1, a2, a3] <;> with_reducible rfl))
      | ((first | apply awR hΓ | apply awG | apply awH mixedOK hΓ rfl (by kernel_rfl) | apply ovE rfl); (simp (disch := omega) only [go_sem, ↓reduceIte, dk, ↓lk, Int.reduceBEq, Int.reduceBNe, Bool.true_bne, Bool.false_bne, Bool.not_true, Bool.not_false, hy, a1, a2, a3] <;> with_reducible rfl); exact trivial)
      | rfl)
    (apply awp_regm (nst := false) (nst' := false) 11 mixedOK hΓ (by kernel_rfl); (simp (disch := omega) only [go_sem, ↓reduceIte, ↓lk, dk, look_upd] <;> with_reducible rfl); (simp (disch := omega) only [go_sem, ↓reduceIte] <;> with_reducible rfl); (focus rfl); (focus rfl); (simp (disch := omega) only [go_sem, ↓reduceIte, ↓lk, dk, look_upd] <;> with_reducible rfl); (focus (first | (simp (disch := omega) only [go_sem, ↓reduceIte, ↓lk, dk, look_upd]; done) | (simp (disch := omega) only [go_sem, ↓reduceIte, ↓lk, dk, look_upd]; omega))); (focus (dsimp only [List.take_succ_cons, List.take_zero]; (repeat (apply same2_cons; (focus (first | (left; decide) | (right; simp (disch := omega) only [go_sem, ↓reduceIte, ↓lk, dk, look_upd]; done))); (simp (disch := omega) only [go_sem, ↓reduceIte, ↓lk, dk, look_upd] <;> with_reducible rfl))); exact same2_nil)); (simp (disch := omega) only [go_sem, ↓reduceIte, ↓lk, dk, look_upd] <;> with_reducible rfl))
    repeat (first
      | (apply axJ; (focus ((with_reducible constructor) <;> rfl)))
      | (apply awT mixedOK hΓ (by kernel_rfl); (simp (disch := omega) only [go_sem, ↓reduceIte, dk, ↓lk, Int.reduceBEq, Int.reduceBNe, Bool.true_bne, Bool.false_bne, Bool.not_true, Bool.not_false] <;> with_reducible rfl))
      | ((first | apply awR hΓ | apply awG | apply awH mixedOK hΓ rfl (by kernel_rfl) | apply ovE rfl); (simp (disch := omega) only [go_sem, ↓reduceIte, dk, ↓lk, Int.reduceBEq, Int.reduceBNe, Bool.true_bne, Bool.false_bne, Bool.not_true, Bool.not_false] <;> with_reducible rfl); exact trivial)
      | rfl)
    exact ⟨(dn, mrg (y1, y2, y3) (u1, u2, u3), acc, i + 1), ⟨by dsimp only; omega, hpre, by dsimp only; omega⟩, by dsimp only; omega, by unfold mrg; exact Weak.w⟩
  rw [ht, k1] at hpre
  simp only [Bool.false_eq_true, if_false] at hpre
  have hk1 : ∀ {P : Prop}, (y1 == u1) = true → decide (y2 ≤ u3) = true → decide (u2 ≤ y3) = true → P := fun a b c => by rw [a, b, c] at k1; cases k1
  cases hA : (!dn && (decide (u1 < y1) || (y1 == u1 && decide (y2 > u3))))
  case true =>
    rw [ha, hA] at hpre
    simp only [if_true] at hpre
    have hdn : dn = false := by
      cases dn
      · rfl
      · cases hA
    subst hdn
    simp only [Bool.not_false, Bool.true_and] at hA
    cases a4 : decide (u1 < y1)
    · rw [a4] at hA
      simp only [Bool.false_or, Bool.and_eq_true] at hA
      obtain ⟨a1, a5⟩ := hA
      have hbv := hb1 a1
      have a2 : decide (y2 ≤ u3) = false := decide_eq_false (by have := of_decide_eq_true a5; omega)
      repeat (first
        | (apply axJ; (focus ((with_reducible constructor) <;> rfl)))
        | (apply awT mixedOK hΓ (by kernel_rfl); (simp (disch := omega) only [go_sem, ↓reduceIte, dk, ↓lk, Int.reduceBEq, Int.reduceBNe, Bool.true_bne, Bool.false_bne, Bool.not_true, Bool.not_false, hy, hbv, Bool.or_true, Bool.or_false, Bool.true_or, Bool.false_or, a1, a2, a5] <;> with_reducible rfl))
        | ((first | apply awR hΓ | apply awG | apply awH mixedOK hΓ rfl (by kernel_rfl) | apply ovE rfl); (simp (disch := omega) only [go_sem, ↓reduceIte, dk, ↓lk, Int.reduceBEq, Int.reduceBNe, Bool.true_bne, Bool.false_bne, Bool.not_true, Bool.not_false, hy, hbv, Bool.or_true, Bool.or_false, Bool.true_or, Bool.false_or, a1, a2, a5] <;> with_reducible rfl); exact trivial)
        | rfl)
      exact ⟨(true, (u1, u2, u3), acc ++ [(u1, u2, u3)] ++ [(y1, y2, y3)], i + 1), ⟨by dsimp only; omega, by dsimp only; rw [hpre]; simp, by dsimp only; rw [List.length_append, List.length_append]; simp only [List.length_cons, List.length_nil]; simp at hl; simp; omega⟩, by dsimp only; omega, by dsimp only; rw [hmy, hmu]; exact Weak.v (by (simp [ConvF, lookV, Conv, ints, List.length_append]; done)) (by (simp (disch := omega) only [TabSub, look, if_pos, if_neg, Obj.refsOK, refsOKs, AV.refsOK, decide_eq_true_eq, Bool.and_true, Bool.and_self, List.length_append] ) <;> ((repeat' apply And.intro) <;> first | exact True.intro | omega | (simp; done) | rfl))⟩
    · have hbv := hb2 a4
      have a1 : (y1 == u1) = false := by
        rw [beq_eq_false_iff_ne]
        intro e
        rw [e] at a4
        exact bs_irr _ (of_decide_eq_true a4)
      repeat (first
        | (apply axJ; (focus ((with_reducible constructor) <;> rfl)))
        | (apply awT mixedOK hΓ (by kernel_rfl); (simp (disch := omega) only [go_sem, ↓reduceIte, dk, ↓lk, Int.reduceBEq, Int.reduceBNe, Bool.true_bne, Bool.false_bne, Bool.not_true, Bool.not_false, hy, hbv, Bool.or_true, Bool.or_false, Bool.true_or, Bool.false_or, a1] <;> with_reducible rfl))
        | ((first | apply awR hΓ | apply awG | apply awH mixedOK hΓ rfl (by kernel_rfl) | apply ovE rfl); (simp (disch := omega) only [go_sem, ↓reduceIte, dk, ↓lk, Int.reduceBEq, Int.reduceBNe, Bool.true_bne, Bool.false_bne, Bool.not_true, Bool.not_false, hy, hbv, Bool.or_true, Bool.or_false, Bool.true_or, Bool.false_or, a1] <;> with_reducible rfl); exact trivial)
        | rfl)
      exact ⟨(true, (u1, u2, u3), acc ++ [(u1, u2, u3)] ++ [(y1, y2, y3)], i + 1), ⟨by dsimp only; omega, by dsimp only; rw [hpre]; simp, by dsimp only; rw [List.length_append, List.length_append]; simp only [List.length_cons, List.length_nil]; simp at hl; simp; omega⟩, by dsimp only; omega, by dsimp only; rw [hmy, hmu]; exact Weak.v (by (simp [ConvF, lookV, Conv, ints, List.length_append]; done)) (by (simp (disch := omega) only [TabSub, look, if_pos, if_neg, Obj.refsOK, refsOKs, AV.refsOK, decide_eq_true_eq, Bool.and_true, Bool.and_self, List.length_append] ) <;> ((repeat' apply And.intro) <;> first | exact True.intro | omega | (simp; done) | rfl))⟩
  rw [ha, hA] at hpre
  simp only [Bool.false_eq_true, if_false] at hpre
  cases dn
  · simp only [Bool.not_false, Bool.true_and, Bool.or_eq_false_iff] at hA
    obtain ⟨a4, a5⟩ := hA
    cases a1 : (y1 == u1)
    · have hbv := hb3 a1 a4
      repeat (first
        | (apply axJ; (focus ((with_reducible constructor) <;> rfl)))
        | (apply awT mixedOK hΓ (by kernel_rfl); (simp (disch := omega) only [go_sem, ↓reduceIte, dk, ↓lk, Int.reduceBEq, Int.reduceBNe, Bool.true_bne, Bool.false_bne, Bool.not_true, Bool.not_false, hy, hbv, Bool.or_true, Bool.or_false, Bool.true_or, Bool.false_or, a1] <;> with_reducible rfl))
        | ((first | apply awR hΓ | apply awG | apply awH mixedOK hΓ rfl (by kernel_rfl) | apply ovE rfl); (simp (disch := omega) only [go_sem, ↓reduceIte, dk, ↓lk, Int.reduceBEq, Int.reduceBNe, Bool.true_bne, Bool.false_bne, Bool.not_true, Bool.not_false, hy, hbv, Bool.or_true, Bool.or_false, Bool.true_or, Bool.false_or, a1] <;> with_reducible rfl); exact trivial)
        | rfl)
      exact ⟨(false, (u1, u2, u3), acc ++ [(y1, y2, y3)], i + 1), ⟨by dsimp only; omega, by dsimp only; rw [hpre]; simp, by dsimp only; rw [List.length_append]; simp only [List.length_cons, List.length_nil]; simp at hl; simp; omega⟩, by dsimp only; omega, by dsimp only; rw [hmy]; exact Weak.v (by (simp [ConvF, lookV, Conv, ints, List.length_append]; done)) (by (simp (disch := omega) only [TabSub, look, if_pos, if_neg, Obj.refsOK, refsOKs, AV.refsOK, decide_eq_true_eq, Bool.and_true, Bool.and_self, List.length_append] ) <;> ((repeat' apply And.intro) <;> first | exact True.intro | omega | (simp; done) | rfl))⟩
    · rw [a1, Bool.true_and] at a5
      have hbv := hb1 a1
      cases a2 : decide (y2 ≤ u3)
      · repeat (first
        | (apply axJ; (focus ((with_reducible constructor) <;> rfl)))
        | (apply awT mixedOK hΓ (by kernel_rfl); (simp (disch := omega) only [go_sem, ↓reduceIte, dk, ↓lk, Int.reduceBEq, Int.reduceBNe, Bool.true_bne, Bool.false_bne, Bool.not_true, Bool.not_false, hy, hbv, Bool.or_true, Bool.or_false, Bool.true_or, Bool.false_or, a1, a2, a5] <;> with_reducible rfl))
        | ((first | apply awR hΓ | apply awG | apply awH mixedOK hΓ rfl (by kernel_rfl) | apply ovE rfl); (simp (disch := omega) only [go_sem, ↓reduceIte, dk, ↓lk, Int.reduceBEq, Int.reduceBNe, Bool.true_bne, Bool.false_bne, Bool.not_true, Bool.not_false, hy, hbv, Bool.or_true, Bool.or_false, Bool.true_or, Bool.false_or, a1, a2, a5] <;> with_reducible rfl); exact trivial)
        | rfl)
        exact ⟨(false, (u1, u2, u3), acc ++ [(y1, y2, y3)], i + 1), ⟨by dsimp only; omega, by dsimp only; rw [hpre]; simp, by dsimp only; rw [List.length_append]; simp only [List.length_cons, List.length_nil]; simp at hl; simp; omega⟩, by dsimp only; omega, by dsimp only; rw [hmy]; exact Weak.v (by (simp [ConvF, lookV, Conv, ints, List.length_append]; done)) (by (simp (disch := omega) only [TabSub, look, if_pos, if_neg, Obj.refsOK, refsOKs, AV.refsOK, decide_eq_true_eq, Bool.and_true, Bool.and_self, List.length_append] ) <;> ((repeat' apply And.intro) <;> first | exact True.intro | omega | (simp; done) | rfl))⟩
      cases a3 : decide (u2 ≤ y3)
      · repeat (first
        | (apply axJ; (focus ((with_reducible constructor) <;> rfl)))
        | (apply awT mixedOK hΓ (by kernel_rfl); (simp (disch := omega) only [go_sem, ↓reduceIte, dk, ↓lk, Int.reduceBEq, Int.reduceBNe, Bool.true_bne, Bool.false_bne, Bool.not_true, Bool.not_false, hy, hbv, Bool.or_true, Bool.or_false, Bool.true_or, Bool.false_or, a1, a2, a3, a5] <;> with_reducible rfl))
        | ((first | apply awR hΓ | apply awG | apply awH mixedOK hΓ rfl (by kernel_rfl) | apply ovE rfl); (simp (disch := omega) only [go_sem, ↓reduceIte, dk, ↓lk, Int.reduceBEq, Int.reduceBNe, Bool.true_bne, Bool.false_bne, Bool.not_true, Bool.not_false, hy, hbv, Bool.or_true, Bool.or_false, Bool.true_or, Bool.false_or, a1, a2, a3, a5] <;> with_reducible rfl); exact trivial)
        | rfl)
        exact ⟨(false, (u1, u2, u3), acc ++ [(y1, y2, y3)], i + 1), ⟨by dsimp only; omega, by dsimp only; rw [hpre]; simp, by dsimp only; rw [List.length_append]; simp only [List.length_cons, List.length_nil]; simp at hl; simp; omega⟩, by dsimp only; omega, by dsimp only; rw [hmy]; exact Weak.v (by (simp [ConvF, lookV, Conv, ints, List.length_append]; done)) (by (simp (disch := omega) only [TabSub, look, if_pos, if_neg, Obj.refsOK, refsOKs, AV.refsOK, decide_eq_true_eq, Bool.and_true, Bool.and_self, List.length_append] ) <;> ((repeat' apply And.intro) <;> first | exact True.intro | omega | (simp; done) | rfl))⟩
      exact hk1 a1 a2 a3
  · cases a1 : (y1 == u1)
    · repeat (first
      | (apply axJ; (focus ((with_reducible constructor) <;> rfl)))
      | (apply awT mixedOK hΓ (by kernel_rfl); (simp (disch := omega) only [go_sem, ↓reduceIte, dk, ↓lk, Int.reduceBEq, Int.reduceBNe, Bool.true_bne, Bool.false_bne, Bool.not_true, Bool.not_false, hy, Bool.or_true, Bool.or_false, Bool.true_or, Bool.false_or, a1] <;> with_reducible rfl))
      | ((first | apply awR hΓ | apply awG | apply awH mixedOK hΓ rfl (by kernel_rfl) | apply ovE rfl); (simp (disch := omega) only [go_sem, ↓reduceIte, dk, ↓lk, Int.reduceBEq, Int.reduceBNe, Bool.true_bne, Bool.false_bne, Bool.not_true, Bool.not_false, hy, Bool.or_true, Bool.or_false, Bool.true_or, Bool.false_or, a1] <;> with_reducible rfl); exact trivial)
      | rfl)
      exact ⟨(true, (u1, u2, u3), acc ++ [(y1, y2, y3)], i + 1), ⟨by dsimp only; omega, by dsimp only; rw [hpre]; simp, by dsimp only; rw [List.length_append]; simp only [List.length_cons, List.length_nil]; simp at hl; simp; omega⟩, by dsimp only; omega, by dsimp only; rw [hmy]; exact Weak.v (by (simp [ConvF, lookV, Conv, ints, List.length_append]; done)) (by (simp (disch := omega) only [TabSub, look, if_pos, if_neg, Obj.refsOK, refsOKs, AV.refsOK, decide_eq_true_eq, Bool.and_true, Bool.and_self, List.length_append] ) <;> ((repeat' apply And.intro) <;> first | exact True.intro | omega | (simp; done) | rfl))⟩
    · cases a2 : decide (y2 ≤ u3)
      · repeat (first
        | (apply axJ; (focus ((with_reducible constructor) <;> rfl)))
        | (apply awT mixedOK hΓ (by kernel_rfl); (simp (disch := omega) only [go_sem, ↓reduceIte, dk, ↓lk, Int.reduceBEq, Int.reduceBNe, Bool.true_bne, Bool.false_bne, Bool.not_true, Bool.not_false, hy, Bool.or_true, Bool.or_false, Bool.true_or, Bool.false_or, a1, a2] <;> with_reducible rfl))
        | ((first | apply awR hΓ | apply awG | apply awH mixedOK hΓ rfl (by kernel_rfl) | apply ovE rfl); (simp (disch := omega) only [go_sem, ↓reduceIte, dk, ↓lk, Int.reduceBEq, Int.reduceBNe, Bool.true_bne, Bool.false_bne, Bool.not_true, Bool.not_false, hy, Bool.or_true, Bool.or_false, Bool.true_or, Bool.false_or, a1, a2] <;> with_reducible rfl); exact trivial)
        | rfl)
        exact ⟨(true, (u1, u2, u3), acc ++ [(y1, y2, y3)], i + 1), ⟨by dsimp only; omega, by dsimp only; rw [hpre]; simp, by dsimp only; rw [List.length_append]; simp only [List.length_cons, List.length_nil]; simp at hl; simp; omega⟩, by dsimp only; omega, by dsimp only; rw [hmy]; exact Weak.v (by (simp [ConvF, lookV, Conv, ints, List.length_append]; done)) (by (simp (disch := omega) only [TabSub, look, if_pos, if_neg, Obj.refsOK, refsOKs, AV.refsOK, decide_eq_true_eq, Bool.and_true, Bool.and_self, List.length_append] ) <;> ((repeat' apply And.intro) <;> first | exact True.intro | omega | (simp; done) | rfl))⟩
      cases a3 : decide (u2 ≤ y3)
      · repeat (first
        | (apply axJ; (focus ((with_reducible constructor) <;> rfl)))
        | (apply awT mixedOK hΓ (by kernel_rfl); (simp (disch := omega) only [go_sem, ↓reduceIte, dk, ↓lk, Int.reduceBEq, Int.reduceBNe, Bool.true_bne, Bool.false_bne, Bool.not_true, Bool.not_false, hy, Bool.or_true, Bool.or_false, Bool.true_or, Bool.false_or, a1, a2, a3] <;> with_reducible rfl))
        | ((first | apply awR hΓ | apply awG | apply awH mixedOK hΓ rfl (by kernel_rfl) | apply ovE rfl); (simp (disch := omega) only [go_sem, ↓reduceIte, dk, ↓lk, Int.reduceBEq, Int.reduceBNe, Bool.true_bne, Bool.false_bne, Bool.not_true, Bool.not_false, hy, Bool.or_true, Bool.or_false, Bool.true_or, Bool.false_or, a1, a2, a3] <;> with_reducible rfl); exact trivial)
        | rfl)
        exact ⟨(true, (u1, u2, u3), acc ++ [(y1, y2, y3)], i + 1), ⟨by dsimp only; omega, by dsimp only; rw [hpre]; simp, by dsimp only; rw [List.length_append]; simp only [List.length_cons, List.length_nil]; simp at hl; simp; omega⟩, by dsimp only; omega, by dsimp only; rw [hmy]; exact Weak.v (by (simp [ConvF, lookV, Conv, ints, List.length_append]; done)) (by (simp (disch := omega) only [TabSub, look, if_pos, if_neg, Obj.refsOK, refsOKs, AV.refsOK, decide_eq_true_eq, Bool.and_true, Bool.and_self, List.length_append] ) <;> ((repeat' apply And.intro) <;> first | exact True.intro | omega | (simp; done) | rfl))⟩
      exact hk1 a1 a2 a3
end Go.Ab
namespace Go.Ab
open Go Go.RowKit
end Go.Ab
namespace Go.Ab
open Go Go.RowKit Go.Proofs
set_option maxRecDepth 10000
set_option maxHeartbeats 40000000
theorem body_len (fs : List Fl) (b : Sp) : (bodyB fs b).1.length ≤ 256 := by
  unfold bodyB
  split
  · split
    · unfold bodyR
      split
      · simp
      · unfold bodyT
        split
        · split
          · simp
          · rename_i h
            simp only [decide_eq_true_eq] at h
            dsimp only
            omega
        · simp
    · simp
  · simp
def eLR (p : (List Tk × List Sp) × Int) : D := .tup [.list (p.1.1.map eTk), .list (p.1.2.map eSp), i64 p.2]
def w0 (l : List Tk) : List Wd := l.map fun t => (t, [])
theorem lineG_eq (fs : List Fl) (us : List Mc) (l : List Tk) : lineG fs us l = if decide ((l.length : Int) > 256) then (([], []), 10) else if l.all (fun t => validB t.1 t.2) then (((loopG fs us 256 (w0 l) []).1.1.map (·.1), setG (loopG fs us 256 (w0 l) []).1.2), (loopG fs us 256 (w0 l) []).2) else (([], []), 1) := by
  unfold lineG printE w0
  split
  · rfl
  · split <;> rfl
end Go.Ab
namespace Go.Ab
open Go Go.RowKit Go.Proofs
set_option maxRecDepth 10000
set_option maxHeartbeats 40000000
theorem HidOK.wd {us : List Mc} (h1 : us.length ≤ 1000000) (h2 : ∀ m ∈ us, m.name.length ≤ 1099511627776) {w : Wd} (h : HidOK us w.2) : WdOK w :=
  ⟨by have := h.len; omega, fun s hs => by
    obtain ⟨m, hm, rfl⟩ := List.mem_map.1 (h.mem s hs)
    exact h2 m hm⟩
noncomputable def g_lineP7 : List D → Option D := encSpec (fun x : (List Fl) × (List Mc) × (List Tk) => [.list (x.1.map eFl), eU x.2.1, .list (x.2.2.map eTk)]) (fun x : (List Fl) × (List Mc) × (List Tk) => ((x.1.length ≤ 1099511627776 ∧ ∀ f ∈ x.1, f.2.length ≤ 1000000000) ∧ (x.2.1.length ≤ 1000000 ∧ ∀ m ∈ x.2.1, m.params.length ≤ 1000000 ∧ m.name.length ≤ 1099511627776)) ∧ (x.2.2.length ≤ 1099511627776 ∧ ∀ t ∈ x.2.2, t.2.length ≤ 1000000000)) (fun x : (List Fl) × (List Mc) × (List Tk) => eLR (lineG x.1 x.2.1 x.2.2))
theorem g_lineP7_eq {fs : List Fl} {us : List Mc} {l : List Tk} (hd : ((fs.length ≤ 1099511627776 ∧ ∀ f ∈ fs, f.2.length ≤ 1000000000) ∧ (us.length ≤ 1000000 ∧ ∀ m ∈ us, m.params.length ≤ 1000000 ∧ m.name.length ≤ 1099511627776)) ∧ (l.length ≤ 1099511627776 ∧ ∀ t ∈ l, t.2.length ≤ 1000000000)) : g_lineP7 [.list (fs.map eFl), eU us, .list (l.map eTk)] = some (eLR (lineG fs us l)) := encSpec_eq (x := (fs, us, l)) hd fun y hy => by
    obtain ⟨y0, y1, y2⟩ := y; simp only [List.cons.injEq, and_true, true_and, D.str.injEq, D.int.injEq, D.list.injEq, D.bool.injEq, D.agg.injEq, D.clo.injEq, Int.natCast_inj, inj_ie, D.ref.injEq, eU_e, eWd_e, eWd_ie, eTk_ie, eTk_e, eFl_ie, eSp_ie, eSp_e, eMc_e, eMc_ie, hid_e] at hy
    (try obtain ⟨rfl, rfl, rfl⟩ := hy)
    (try subst_vars)
    rfl
theorem f_lineP7_ok : PureOK Tryz.prog 16 false g_lineP7 := by
  have hΓ := Γp f_tprint_ok (Γp f_findP_ok (Γp f_replP_ok (Γp f_setP_ok (Γn))))
  refine pure_enc (n := 85) (rs := [.tmp 6, .tmp 7, .tmp 8]) Tryz.func16 (by kernel_rfl) rfl (by kernel_rfl) (by kernel_rfl) ?_
  rintro ⟨fs, us, l⟩ hd
  (try dsimp only at hd ⊢)
  refine ⟨fun h => (by cases h), fun k hz0 => ?_⟩
  obtain ⟨⟨⟨d1, d2⟩, d3, d4⟩, d5, d6⟩ := hd
  have hL : lineG fs us l = if (printE l).2 == 0 then (((loopG fs us 256 (w0 l) []).1.1.map (·.1), setG (loopG fs us 256 (w0 l) []).1.2), (loopG fs us 256 (w0 l) []).2) else (([], []), (printE l).2) := rfl
  rw [eU_eq]
  have e1 := g_tprint_eq (l := l) ⟨d5, d6⟩
  have hl0 : (printE l).2 = 0 → l.length ≤ 256 := fun h => by
    unfold printE at h
    split at h
    · cases h
    · rename_i h2
      simp only [decide_eq_true_eq] at h2
      omega
  generalize printE l = P at *
  obtain ⟨pt, pe⟩ := P
  dsimp only at hL e1 hl0
  replace e1 : g_tprint [.list (l.map eTk)] = some (.tup [.str pt, .int .i64 pe]) := e1
  rw [start_frame (by simp)]; simp only [enumV, go_sem, emptyH]
  by_cases hpe : pe = 0
  case neg =>
    have hpe2 : (pe != 0) = true := by simpa using hpe
    have hpe3 : (pe == 0) = false := by simpa using hpe
    rw [hpe3] at hL
    simp only [Bool.false_eq_true, if_false] at hL
    rw [hL]
    repeat (first
      | (apply axJ; (focus ((with_reducible constructor) <;> rfl)))
      | (apply awT mixedOK hΓ (by kernel_rfl); (simp (disch := omega) only [go_sem, ↓reduceIte, dk, ↓lk, Int.reduceBEq, Int.reduceBNe, Bool.true_bne, Bool.false_bne, Bool.not_true, Bool.not_false, e1, hpe2] <;> with_reducible rfl))
      | ((first | apply awR hΓ | apply awG | apply awH mixedOK hΓ rfl (by kernel_rfl) | apply ovE rfl); (simp (disch := omega) only [go_sem, ↓reduceIte, dk, ↓lk, Int.reduceBEq, Int.reduceBNe, Bool.true_bne, Bool.false_bne, Bool.not_true, Bool.not_false, e1, hpe2] <;> with_reducible rfl); exact trivial)
      | rfl)
    try rfl
  subst hpe
  have hl1 := hl0 rfl
  simp only [beq_self_eq_true, if_true] at hL
  repeat (first
    | (apply axJ; (focus ((with_reducible constructor) <;> rfl)))
    | (apply awT mixedOK hΓ (by kernel_rfl); (simp (disch := omega) only [go_sem, ↓reduceIte, dk, ↓lk, Int.reduceBEq, Int.reduceBNe, Bool.true_bne, Bool.false_bne, Bool.not_true, Bool.not_false, e1] <;> with_reducible rfl))
    | ((first | apply awR hΓ | apply awG | apply awH mixedOK hΓ rfl (by kernel_rfl) | apply ovE rfl); (simp (disch := omega) only [go_sem, ↓reduceIte, dk, ↓lk, Int.reduceBEq, Int.reduceBNe, Bool.true_bne, Bool.false_bne, Bool.not_true, Bool.not_false, e1] <;> with_reducible rfl); exact trivial)
    | rfl)
  refine awp_weak (Weak.nilrowF (i := 11) 79 (sz := 3) (by omega) (by omega) rfl) ?_
  refine awp_loop_at (X := Nat) (fun i => (frame 85 [(0, .data (.list (fs.map eFl))), (4, .ptr 0 0), (11, .row 17 i), (30, .data (.list (l.map eTk))), (31, .data (i64 l.length)), (32, .data (i64 i))])) (fun i => [(0, .box [.data (.str []), .data (.list []), .data (.list (us.map eMc)), .data (.list []), .data (.list []), .data (.list [])]), (17, .row 79 3 (((w0 l).take i).map eWd))]) 18
    (fun i => i ≤ l.length) (fun i => l.length - i) 0 (Nat.zero_le _) (Weak.v (by (simp [ConvF, lookV, Conv, ints, upd]; done)) (by (simp (disch := omega) only [TabSub, look, if_pos, if_neg, Obj.refsOK, refsOKs, AV.refsOK, decide_eq_true_eq, Bool.and_true, Bool.and_self, upd] ) <;> ((repeat' apply And.intro) <;> first | exact True.intro | omega | (simp; done) | rfl))) ?_
  rintro i hi
  (try dsimp only at hi ⊢)
  by_cases hi2 : i < l.length
  · have hst : ((w0 l).take (i + 1)).map eWd = ((w0 l).take i).map eWd ++ [.agg [i64 l[i].1, .str l[i].2, .map [] []]] := by
      unfold w0
      rw [List.take_add_one, List.getElem?_map, List.getElem?_eq_getElem hi2, List.map_append]
      rfl
    have hll : (((w0 l).take i).map eWd).length = i := by simp [w0]; omega
    generalize ((w0 l).take i).map eWd = R at *
    generalize hy : l[i] = y at *
    obtain ⟨y1, y2⟩ := y
    dsimp only at hst
    repeat (first
      | (apply axJ; (focus ((with_reducible constructor) <;> rfl)))
      | (apply awT mixedOK hΓ (by kernel_rfl); (simp (disch := omega) only [go_sem, ↓reduceIte, dk, ↓lk, Int.reduceBEq, Int.reduceBNe, Bool.true_bne, Bool.false_bne, Bool.not_true, Bool.not_false, ↓ty_build79, hy, hll] <;> with_reducible rfl))
      | ((first | apply awR hΓ | apply awG | apply awH mixedOK hΓ rfl (by kernel_rfl) | apply ovE rfl); (simp (disch := omega) only [go_sem, ↓reduceIte, dk, ↓lk, Int.reduceBEq, Int.reduceBNe, Bool.true_bne, Bool.false_bne, Bool.not_true, Bool.not_false, ↓ty_build79, hy, hll] <;> with_reducible rfl); exact trivial)
      | rfl)
    exact ⟨i + 1, by omega, by omega, by rw [hst]; exact Weak.w⟩
  have hi3 : i = l.length := by omega
  subst hi3
  have hwl0 : (w0 l).length = l.length := by simp [w0]
  rw [← hwl0, List.take_length]
  repeat (first
    | (apply axJ; (focus ((with_reducible constructor) <;> rfl)))
    | (apply awT mixedOK hΓ (by kernel_rfl); (simp (disch := omega) only [go_sem, ↓reduceIte, dk, ↓lk, Int.reduceBEq, Int.reduceBNe, Bool.true_bne, Bool.false_bne, Bool.not_true, Bool.not_false] <;> with_reducible rfl))
    | ((first | apply awR hΓ | apply awG | apply awH mixedOK hΓ rfl (by kernel_rfl) | apply ovE rfl); (simp (disch := omega) only [go_sem, ↓reduceIte, dk, ↓lk, Int.reduceBEq, Int.reduceBNe, Bool.true_bne, Bool.false_bne, Bool.not_true, Bool.not_false] <;> with_reducible rfl); exact trivial)
    | rfl)
  refine awp_weak ((Weak.freeze (o := 17) rfl).trans (show Weak _ _ _ ((frame 85 [(0, .data (.list (fs.map eFl))), (4, .ptr 0 0), (11, .data (.list ((w0 l).map eWd))), (14, .nils), (15, .data (i64 ((0 : Nat) : Int)))])) ⟨[(0, .box [.data (.str []), .data (.list []), .data (.list (us.map eMc)), .data (.list []), .data (.list []), .data (.list [])])], 21⟩ from Weak.v (by (simp [ConvF, lookV, Conv, ints, upd, Heap.set, Heap.get, look]; done)) (by (simp (disch := omega) only [TabSub, look, if_pos, if_neg, Obj.refsOK, refsOKs, AV.refsOK, decide_eq_true_eq, Bool.and_true, Bool.and_self, upd, Heap.set, Heap.get, look] ) <;> ((repeat' apply And.intro) <;> first | exact True.intro | omega | (simp; done) | rfl)))) ?_
  refine awp_weak (Weak.nilrowF (i := 14) 26 (sz := 3) (by omega) (by omega) rfl) ?_
  refine awp_loop_at (X := List Wd × List Sp × Nat) (fun y => (frame 85 [(0, .data (.list (fs.map eFl))), (4, .ptr 0 0), (11, .data (.list (y.1.map eWd))), (14, .row 21 y.2.1.length), (15, .data (i64 y.2.2))])) (fun y => [(0, .box [.data (.str []), .data (.list []), .data (.list (us.map eMc)), .data (.list []), .data (.list []), .data (.list [])]), (21, .row 26 3 (y.2.1.map eSp))]) 22
    (fun y => loopG fs us 256 (w0 l) [] = loopG fs us (256 - y.2.2) y.1 y.2.1 ∧ (y.2.2 ≤ 256 ∧ y.1.length ≤ 256 ∧ y.2.1.length ≤ y.2.2) ∧ HidAll us y.1) (fun y => 256 - y.2.2) (w0 l, [], 0)
    ⟨rfl, ⟨Nat.zero_le _, by dsimp only; omega, Nat.zero_le _⟩, fun w hw => (by obtain ⟨t, _, rfl⟩ := List.mem_map.1 hw; exact ⟨by simp, fun s hs => by cases hs⟩)⟩ (Weak.v (by (simp [ConvF, lookV, Conv, ints, upd]; done)) (by (simp (disch := omega) only [TabSub, look, if_pos, if_neg, Obj.refsOK, refsOKs, AV.refsOK, decide_eq_true_eq, Bool.and_true, Bool.and_self, upd] ) <;> ((repeat' apply And.intro) <;> first | exact True.intro | omega | (simp; done) | rfl))) ?_
  rintro ⟨ws, rd, n⟩ ⟨hpre, ⟨hn, hwl, hrl⟩, hhid⟩
  (try dsimp only at hpre hn hwl hrl hhid ⊢)
  have e2 := g_findP_eq (us := us) (l := ws) ⟨by omega, by omega⟩
  rw [eU_eq] at e2
  rw [loopG_eq fs us (256 - n) ws rd] at hpre
  cases hf : findG us ws with
  | none =>
    rw [hf] at e2 hpre
    replace e2 : g_findP [.agg [.str [], .list [], .list (us.map eMc), .list [], .list [], .list []], .list (ws.map eWd)] = some (.tup [.agg [.str [], .list [], .str [], .int .i64 0, .int .i64 0], .int .i64 (-1)]) := e2
    dsimp only at hpre
    rw [hpre] at hL
    rw [hL]
    clear hpre
    have hlt : decide ((-1 : Int) < 0) = true := rfl
    have e4 := g_setP_eq (l := rd) (by omega)
    repeat (first
      | (apply axJ; (focus ((with_reducible constructor) <;> rfl)))
      | (apply awT mixedOK hΓ (by kernel_rfl); (simp (disch := omega) only [go_sem, ↓reduceIte, dk, ↓lk, Int.reduceBEq, Int.reduceBNe, Bool.true_bne, Bool.false_bne, Bool.not_true, Bool.not_false, e2, hlt] <;> with_reducible rfl))
      | ((first | apply awR hΓ | apply awG | apply awH mixedOK hΓ rfl (by kernel_rfl) | apply ovE rfl); (simp (disch := omega) only [go_sem, ↓reduceIte, dk, ↓lk, Int.reduceBEq, Int.reduceBNe, Bool.true_bne, Bool.false_bne, Bool.not_true, Bool.not_false, e2, hlt] <;> with_reducible rfl); exact trivial)
      | rfl)
    refine awp_weak (Weak.nilrowF (i := 19) 55 (sz := 2) (by omega) (by omega) rfl) ?_
    refine awp_loop_at (X := Nat) (fun i => (frame 85 [(14, .row 21 rd.length), (19, .row 37 i), (70, .data (.list (ws.map eWd))), (71, .data (i64 ws.length)), (72, .data (i64 i))])) (fun i => [(21, .row 26 3 (rd.map eSp)), (37, .row 55 2 (((ws.map (·.1)).take i).map eTk))]) 38
      (fun i => i ≤ ws.length) (fun i => ws.length - i) 0 (Nat.zero_le _) (Weak.v (by (simp [ConvF, lookV, Conv, ints, upd]; done)) (by (simp (disch := omega) only [TabSub, look, if_pos, if_neg, Obj.refsOK, refsOKs, AV.refsOK, decide_eq_true_eq, Bool.and_true, Bool.and_self, upd] ) <;> ((repeat' apply And.intro) <;> first | exact True.intro | omega | (simp; done) | rfl))) ?_
    rintro i hi
    (try dsimp only at hi ⊢)
    by_cases hi2 : i < ws.length
    · have hst : ((ws.map (·.1)).take (i + 1)).map eTk = ((ws.map (·.1)).take i).map eTk ++ [.agg [i64 ws[i].1.1, .str ws[i].1.2]] := by
        rw [List.take_add_one, List.getElem?_map, List.getElem?_eq_getElem hi2, List.map_append]
        rfl
      have hll : (((ws.map (·.1)).take i).map eTk).length = i := by simp; omega
      generalize ((ws.map (·.1)).take i).map eTk = R at *
      generalize hz : ws[i] = z at *
      obtain ⟨⟨z1, z2⟩, z3⟩ := z
      dsimp only at hst
      repeat (first
        | (apply axJ; (focus ((with_reducible constructor) <;> rfl)))
        | (apply awT mixedOK hΓ (by kernel_rfl); (simp (disch := omega) only [go_sem, ↓reduceIte, dk, ↓lk, Int.reduceBEq, Int.reduceBNe, Bool.true_bne, Bool.false_bne, Bool.not_true, Bool.not_false, hz, hll] <;> with_reducible rfl))
        | ((first | apply awR hΓ | apply awG | apply awH mixedOK hΓ rfl (by kernel_rfl) | apply ovE rfl); (simp (disch := omega) only [go_sem, ↓reduceIte, dk, ↓lk, Int.reduceBEq, Int.reduceBNe, Bool.true_bne, Bool.false_bne, Bool.not_true, Bool.not_false, hz, hll] <;> with_reducible rfl); exact trivial)
        | rfl)
      exact ⟨i + 1, by omega, by omega, by rw [hst]; exact Weak.w⟩
    have hi3 : i = ws.length := by omega
    subst hi3
    have hte : (ws.map (·.1)).take ws.length = ws.map (·.1) := List.take_of_length_le (by simp)
    rw [hte]
    unfold eLR
    repeat (first
      | (apply axJ; (focus ((with_reducible constructor) <;> rfl)))
      | (apply awT mixedOK hΓ (by kernel_rfl); (simp (disch := omega) only [go_sem, ↓reduceIte, dk, ↓lk, Int.reduceBEq, Int.reduceBNe, Bool.true_bne, Bool.false_bne, Bool.not_true, Bool.not_false, e4, List.length_map] <;> with_reducible rfl))
      | ((first | apply awR hΓ | apply awG | apply awH mixedOK hΓ rfl (by kernel_rfl) | apply ovE rfl); (simp (disch := omega) only [go_sem, ↓reduceIte, dk, ↓lk, Int.reduceBEq, Int.reduceBNe, Bool.true_bne, Bool.false_bne, Bool.not_true, Bool.not_false, e4, List.length_map] <;> with_reducible rfl); exact trivial)
      | rfl)
    try rfl
  | some q =>
    obtain ⟨i, m⟩ := q
    obtain ⟨hi, hme, _⟩ := findG_some hf
    have hmm := (meant_mem hme).1
    rw [hf] at e2 hpre
    dsimp only at hpre
    have hrl2 := repl_len (fs := fs) (m := m) (l := ws) (i := i)
    have hrh := repl_hid (fs := fs) (m := m) hmm hhid hi
    have e3 := g_replP_eq (fs := fs) (m := m) (l := ws) (n := i) ⟨⟨⟨d1, d2⟩, d4 m hmm⟩, ⟨hwl, hi⟩, fun w hw => (hhid w hw).wd d3 (fun m hm => (d4 m hm).2)⟩
    obtain ⟨mn, mp, m3, m4, m5⟩ := m
    generalize replG fs ⟨mn, mp, (m3, m4, m5)⟩ ws i = G at *
    obtain ⟨nw, er⟩ := G
    dsimp only at hpre hrl2 hrh
    replace e2 : g_findP [.agg [.str [], .list [], .list (us.map eMc), .list [], .list [], .list []], .list (ws.map eWd)] = some (.tup [.agg [.str mn, .list (mp.map .str), .str m3, .int .i64 m4, .int .i64 m5], .int .i64 (i : Int)]) := e2
    replace e3 : g_replP [.list (fs.map eFl), .agg [.str mn, .list (mp.map .str), .str m3, .int .i64 m4, .int .i64 m5], .list (ws.map eWd), .int .i64 (i : Int)] = some (.tup [.list (nw.map eWd), .int .i64 er]) := e3
    have hlt : decide ((i : Int) < 0) = false := decide_eq_false (by omega)
    by_cases hn2 : n = 256
    · subst hn2
      have hn3 : (((256 : Nat) : Int) == 256) = true := rfl
      simp only [Nat.sub_self] at hpre
      rw [hpre] at hL
      rw [hL]
      repeat (first
        | (apply axJ; (focus ((with_reducible constructor) <;> rfl)))
        | (apply awT mixedOK hΓ (by kernel_rfl); (simp (disch := omega) only [go_sem, ↓reduceIte, dk, ↓lk, Int.reduceBEq, Int.reduceBNe, Bool.true_bne, Bool.false_bne, Bool.not_true, Bool.not_false, e2, hlt, hn3] <;> with_reducible rfl))
        | ((first | apply awR hΓ | apply awG | apply awH mixedOK hΓ rfl (by kernel_rfl) | apply ovE rfl); (simp (disch := omega) only [go_sem, ↓reduceIte, dk, ↓lk, Int.reduceBEq, Int.reduceBNe, Bool.true_bne, Bool.false_bne, Bool.not_true, Bool.not_false, e2, hlt, hn3] <;> with_reducible rfl); exact trivial)
        | rfl)
      try rfl
    have hn3 : ((n : Int) == 256) = false := by rw [beq_eq_false_iff_ne]; omega
    obtain ⟨k, hk⟩ : ∃ k, 256 - n = k + 1 := ⟨256 - n - 1, by omega⟩
    rw [hk] at hpre
    dsimp only at hpre
    by_cases her : er = 0
    case neg =>
      have her2 : (er != 0) = true := by simpa using her
      have her3 : (er == 0) = false := by simpa using her
      rw [her3] at hpre
      simp only [Bool.false_eq_true, if_false] at hpre
      rw [hpre] at hL
      rw [hL]
      repeat (first
        | (apply axJ; (focus ((with_reducible constructor) <;> rfl)))
        | (apply awT mixedOK hΓ (by kernel_rfl); (simp (disch := omega) only [go_sem, ↓reduceIte, dk, ↓lk, Int.reduceBEq, Int.reduceBNe, Bool.true_bne, Bool.false_bne, Bool.not_true, Bool.not_false, e2, e3, hlt, hn3, her2] <;> with_reducible rfl))
        | ((first | apply awR hΓ | apply awG | apply awH mixedOK hΓ rfl (by kernel_rfl) | apply ovE rfl); (simp (disch := omega) only [go_sem, ↓reduceIte, dk, ↓lk, Int.reduceBEq, Int.reduceBNe, Bool.true_bne, Bool.false_bne, Bool.not_true, Bool.not_false, e2, e3, hlt, hn3, her2] <;> with_reducible rfl); exact trivial)
        | rfl)
      try rfl
    subst her
    simp only [beq_self_eq_true, if_true] at hpre
    have hk2 : 256 - (n + 1) = k := by omega
    have hmS : (rd ++ [(m3, m4, m5)]).map eSp = rd.map eSp ++ [.agg [.str m3, i64 m4, i64 m5]] := by rw [List.map_append]; rfl
    have hmL : (rd ++ [(m3, m4, m5)]).length = rd.length + 1 := by rw [List.length_append]; rfl
    repeat (first
      | (apply axJ; (focus ((with_reducible constructor) <;> rfl)))
      | (apply awT mixedOK hΓ (by kernel_rfl); (simp (disch := omega) only [go_sem, ↓reduceIte, dk, ↓lk, Int.reduceBEq, Int.reduceBNe, Bool.true_bne, Bool.false_bne, Bool.not_true, Bool.not_false, e2, e3, hlt, hn3] <;> with_reducible rfl))
      | ((first | apply awR hΓ | apply awG | apply awH mixedOK hΓ rfl (by kernel_rfl) | apply ovE rfl); (simp (disch := omega) only [go_sem, ↓reduceIte, dk, ↓lk, Int.reduceBEq, Int.reduceBNe, Bool.true_bne, Bool.false_bne, Bool.not_true, Bool.not_false, e2, e3, hlt, hn3] <;> with_reducible rfl); exact trivial)
      | rfl)
    exact ⟨(nw, rd ++ [(m3, m4, m5)], n + 1), ⟨by dsimp only; rw [hk2]; exact hpre, ⟨by dsimp only; omega, hrl2, by dsimp only; omega⟩, hrh⟩, by dsimp only; omega, by dsimp only; rw [hmS, hmL]; exact Weak.w⟩
end Go.Ab
