/-
  One text of the proof (own work): contracts of functions of the program, by the abstract machine.
-/
import Derived.WalkKit
import Derived.Test.YtapnigckcnknoaaGreatDoorX12
import Derived.Test.YtapnigckcnknoaaGreatDoorX22
import Derived.Test.YtapnigckcnknoaaGreatDoorX23
import Derived.Test.YtapnigckcnknoaaGreatDoorX11
import Derived.Test.YtapnigckcnknoaaGreatDoorX13
set_option linter.unusedVariables false
set_option linter.unusedSimpArgs false
namespace Go.Ab
open Go Go.RowKit Go.Proofs
set_option maxRecDepth 10000
set_option maxHeartbeats 16000000
def eWds (l : List Wd) : D := .list (l.map eWd)
theorem eWds_inj (a b : List Wd) (h : eWds a = eWds b) : a = b := by
  simp only [eWds, D.list.injEq] at h
  exact (map_ie eWd_inj _ _).mp h
theorem eWds_ie (a b : List (List Wd)) : (a.map eWds = b.map eWds) = (a = b) := map_ie eWds_inj a b
@[go_sem] theorem elemsOK_wds (l : List (List Wd)) : elemsOK 1 (l.map eWds) = true := elemsOK_map (f := eWds) (fun _ => ⟨by rfl, by rfl⟩) l
def eAp : Option (List (List Wd) × List Wd) → D
  | some (a, r) => .tup [.list (a.map eWds), .list (r.map eWd), i64 0]
  | none => .tup [.list [], .list [], i64 4]
theorem one_take {l : List Wd} {f i : Nat} (hf : f ≤ i) (hi : i < l.length) : (l.drop f).take (i + 1 - f) = (l.drop f).take (i - f) ++ [l[i]] := by
  have h1 : i - f < (l.drop f).length := by rw [List.length_drop]; omega
  rw [show i + 1 - f = (i - f) + 1 by omega, List.take_add_one, List.getElem?_eq_getElem h1, List.getElem_drop]
  simp only [show f + (i - f) = i by omega]
  rfl
noncomputable def g_argsP : List D → Option D := encSpec (fun x : (List Wd) => [.list (x.map eWd)]) (fun x : (List Wd) => x.length ≤ 1000000) (fun x : (List Wd) => eAp (argsG x))
theorem g_argsP_eq {l : List Wd} (hd : l.length ≤ 1000000) : g_argsP [.list (l.map eWd)] = some (eAp (argsG l)) := encSpec_eq (x := l) hd fun y hy => by
    simp only [List.cons.injEq, and_true, true_and, D.str.injEq, D.int.injEq, D.list.injEq, D.bool.injEq, D.agg.injEq, D.clo.injEq, Int.natCast_inj, inj_ie, D.ref.injEq, eU_e, eWd_e, eWd_ie, eWds_ie, eTk_ie, eTk_e, eFl_ie, eSp_ie, eSp_e, eMc_e, eMc_ie, hid_e] at hy
    rw [hy]
theorem f_argsP_ok : PureOK Tryz.prog 62 false g_argsP := by
  have hΓ := Γp f_isP_ok (Γn)
  refine pure_enc (n := 67) (rs := [.tmp 2, .tmp 3, .tmp 4]) Tryz.func62 (by kernel_rfl) rfl (by kernel_rfl) (by kernel_rfl) ?_
  rintro l hd
  (try dsimp only at hd ⊢)
  refine ⟨fun h => (by cases h), fun k hz0 => ?_⟩
  rw [start_frame (by simp)]; simp only [enumV, go_sem, emptyH]
  rcases hl : l with _ | ⟨w, r⟩
  · repeat (first
    | (apply axJ; (focus ((with_reducible constructor) <;> rfl)))
    | (apply awT mixedOK hΓ (by kernel_rfl); (simp (disch := omega) only [go_sem, ↓reduceIte, dk, ↓lk, Int.reduceBEq, Int.reduceBNe, Bool.true_bne, Bool.false_bne, Bool.not_true, Bool.not_false, List.map_nil, List.length_nil, show ((0 : Nat) : Int) = 0 from rfl] <;> with_reducible rfl))
    | ((first | apply awR hΓ | apply awG | apply awH mixedOK hΓ rfl (by kernel_rfl) | apply ovE rfl); (simp (disch := omega) only [go_sem, ↓reduceIte, dk, ↓lk, Int.reduceBEq, Int.reduceBNe, Bool.true_bne, Bool.false_bne, Bool.not_true, Bool.not_false, List.map_nil, List.length_nil, show ((0 : Nat) : Int) = 0 from rfl] <;> with_reducible rfl); exact trivial)
    | rfl)
    try rfl
  rw [← hl]
  have hl0 : 0 < l.length := by rw [hl]; simp
  have hem : (((l.length : Nat) : Int) == 0) = false := by rw [beq_eq_false_iff_ne]; omega
  have hw0 : ∀ h : 0 < l.length, l[0]'h = w := fun h => by simp [hl]
  have hr1 : l.drop 1 = r := by rw [hl]; rfl
  have hag : argsG l = if isSy w [40] then argsGo 0 [] [] r else none := by rw [hl, argsG]
  rw [hag]
  clear hag hl
  have e1 := g_isP_eq (w := w) (s := [40]) trivial
  rw [eWd_eq] at e1
  cases k1 : isSy w [40]
  · rw [k1] at e1
    simp only [Bool.false_eq_true, if_false]
    repeat (first
      | (apply axJ; (focus ((with_reducible constructor) <;> rfl)))
      | (apply awT mixedOK hΓ (by kernel_rfl); (simp (disch := omega) only [go_sem, ↓reduceIte, dk, ↓lk, Int.reduceBEq, Int.reduceBNe, Bool.true_bne, Bool.false_bne, Bool.not_true, Bool.not_false, Int.reduceToNat, hem, hw0, e1] <;> with_reducible rfl))
      | ((first | apply awR hΓ | apply awG | apply awH mixedOK hΓ rfl (by kernel_rfl) | apply ovE rfl); (simp (disch := omega) only [go_sem, ↓reduceIte, dk, ↓lk, Int.reduceBEq, Int.reduceBNe, Bool.true_bne, Bool.false_bne, Bool.not_true, Bool.not_false, Int.reduceToNat, hem, hw0, e1] <;> with_reducible rfl); exact trivial)
      | rfl)
    try rfl
  rw [k1] at e1
  simp only [if_true]
  repeat (first
    | (apply axJ; (focus ((with_reducible constructor) <;> rfl)))
    | (apply awT mixedOK hΓ (by kernel_rfl); (simp (disch := omega) only [go_sem, ↓reduceIte, dk, ↓lk, Int.reduceBEq, Int.reduceBNe, Bool.true_bne, Bool.false_bne, Bool.not_true, Bool.not_false, Int.reduceToNat, hem, hw0, e1] <;> with_reducible rfl))
    | ((first | apply awR hΓ | apply awG | apply awH mixedOK hΓ rfl (by kernel_rfl) | apply ovE rfl); (simp (disch := omega) only [go_sem, ↓reduceIte, dk, ↓lk, Int.reduceBEq, Int.reduceBNe, Bool.true_bne, Bool.false_bne, Bool.not_true, Bool.not_false, Int.reduceToNat, hem, hw0, e1] <;> with_reducible rfl); exact trivial)
    | rfl)
  refine awp_weak (Weak.nilrowF (i := 5) 76 (sz := 1) (by omega) (by omega) rfl) ?_
  refine awp_loop_at (X := Nat × Nat × Nat × List (List Wd)) (fun y => (frame 67 [(0, .data (.list (l.map eWd))), (5, .row 19 y.2.2.2.length), (6, .data (i64 y.2.1)), (7, .data (i64 y.2.2.1)), (20, .data (.list (l.map eWd))), (21, .data (i64 l.length)), (22, .data (i64 y.1))])) (fun y => [(19, .row 76 1 (y.2.2.2.map eWds))]) 20
    (fun y => (y.1 = 0 ∧ y.2.1 = 1 ∧ y.2.2.1 = 0 ∧ y.2.2.2 = []) ∨ ((1 ≤ y.1 ∧ y.1 ≤ l.length) ∧ (1 ≤ y.2.1 ∧ y.2.1 ≤ y.1) ∧ (1 ≤ y.2.2.1 ∧ y.2.2.1 ≤ y.1 + 1) ∧ y.2.2.2.length ≤ y.1 ∧ argsGo 0 [] [] r = argsGo (y.2.2.1 - 1) ((l.drop y.2.1).take (y.1 - y.2.1)) y.2.2.2 (l.drop y.1))) (fun y => l.length - y.1) (0, 1, 0, []) (.inl ⟨rfl, rfl, rfl, rfl⟩) (Weak.v (by (simp [ConvF, lookV, Conv, ints, upd]; done)) (by (simp (disch := omega) only [TabSub, look, if_pos, if_neg, Obj.refsOK, refsOKs, AV.refsOK, decide_eq_true_eq, Bool.and_true, Bool.and_self, upd] ) <;> ((repeat' apply And.intro) <;> first | exact True.intro | omega | (simp; done) | rfl))) ?_
  rintro ⟨i, fr, dp, out⟩ hJ
  (try dsimp only at hJ ⊢)
  rcases hJ with ⟨rfl, rfl, rfl, rfl⟩ | ⟨⟨i1, i2⟩, ⟨f1, f2⟩, ⟨p1, p2⟩, ho, hpre⟩
  · have hlt : (0 : Int) < (l.length : Int) := by omega
    repeat (first
      | (apply axJ; (focus ((with_reducible constructor) <;> rfl)))
      | (apply awT mixedOK hΓ (by kernel_rfl); (simp (disch := omega) only [go_sem, ↓reduceIte, dk, ↓lk, Int.reduceBEq, Int.reduceBNe, Bool.true_bne, Bool.false_bne, Bool.not_true, Bool.not_false, Int.reduceToNat, hw0, e1, hlt] <;> with_reducible rfl))
      | ((first | apply awR hΓ | apply awG | apply awH mixedOK hΓ rfl (by kernel_rfl) | apply ovE rfl); (simp (disch := omega) only [go_sem, ↓reduceIte, dk, ↓lk, Int.reduceBEq, Int.reduceBNe, Bool.true_bne, Bool.false_bne, Bool.not_true, Bool.not_false, Int.reduceToNat, hw0, e1, hlt] <;> with_reducible rfl); exact trivial)
      | rfl)
    exact ⟨(1, 1, 1, []), .inr ⟨⟨Nat.le_refl _, hl0⟩, ⟨Nat.le_refl _, Nat.le_refl _⟩, ⟨Nat.le_refl _, Nat.le_succ _⟩, Nat.zero_le _, by dsimp only; rw [hr1]; rfl⟩, by dsimp only; omega, Weak.w⟩
  obtain ⟨d, rfl⟩ : ∃ d, dp = d + 1 := ⟨dp - 1, by omega⟩
  rw [Nat.add_sub_cancel] at hpre
  by_cases hi2 : i < l.length
  case neg =>
    have hi3 : i = l.length := by omega
    subst hi3
    rw [List.drop_length, argsGo] at hpre
    rw [hpre]
    repeat (first
      | (apply axJ; (focus ((with_reducible constructor) <;> rfl)))
      | (apply awT mixedOK hΓ (by kernel_rfl); (simp (disch := omega) only [go_sem, ↓reduceIte, dk, ↓lk, Int.reduceBEq, Int.reduceBNe, Bool.true_bne, Bool.false_bne, Bool.not_true, Bool.not_false] <;> with_reducible rfl))
      | ((first | apply awR hΓ | apply awG | apply awH mixedOK hΓ rfl (by kernel_rfl) | apply ovE rfl); (simp (disch := omega) only [go_sem, ↓reduceIte, dk, ↓lk, Int.reduceBEq, Int.reduceBNe, Bool.true_bne, Bool.false_bne, Bool.not_true, Bool.not_false] <;> with_reducible rfl); exact trivial)
      | rfl)
    try rfl
  have hdi := List.drop_eq_getElem_cons hi2
  have hot := one_take f2 hi2
  have s1 := g_isP_eq (w := l[i]) (s := [40]) trivial
  have s2 := g_isP_eq (w := l[i]) (s := [41]) trivial
  have s3 := g_isP_eq (w := l[i]) (s := [44]) trivial
  have x1 : isSy l[i] [40] = true → isSy l[i] [41] = false := fun h => sy_excl h rfl
  have x2 : isSy l[i] [40] = true → isSy l[i] [44] = false := fun h => sy_excl h rfl
  have x3 : isSy l[i] [41] = true → isSy l[i] [44] = false := fun h => sy_excl h rfl
  rw [hdi, argsGo_eq] at hpre
  have hol : ((l.drop fr).take (i - fr)).length = i - fr := by rw [List.length_take, List.length_drop]; omega
  have hoe : ((l.drop fr).take (i - fr)).isEmpty = ((i : Int) == (fr : Int)) := by
    rw [← empty_len, hol, Bool.eq_iff_iff, beq_iff_eq, beq_iff_eq]
    omega
  have q1 : List.take (i - fr) (List.drop fr (l.map eWd)) = ((l.drop fr).take (i - fr)).map eWd := by rw [List.map_take, List.map_drop]
  have q2 : List.take (l.length - (i + 1)) (List.drop (i + 1) (l.map eWd)) = (l.drop (i + 1)).map eWd := by
    rw [← List.map_drop]
    exact List.take_of_length_le (by rw [List.length_map, List.length_drop]; omega)
  have hi1 : ((i : Int) + 1).toNat = i + 1 := by omega
  have hmo : ∀ o : List Wd, (out ++ [o]).map eWds = out.map eWds ++ [.list (o.map eWd)] := fun o => by rw [List.map_append]; rfl
  generalize hz : l[i] = z at *
  rw [eWd_eq] at s1 s2 s3
  rw [hoe] at hpre
  generalize hone : (l.drop fr).take (i - fr) = one at *
  have hdc : (((d + 1 : Nat) : Int) - 1) = (d : Int) := by omega
  have hd0 : (((d + 1 : Nat) : Int) == 0) = false := by rw [beq_eq_false_iff_ne]; omega
  have hd1 : (((d + 1 : Nat) : Int) == 1) = (d == 0) := by rw [Bool.eq_iff_iff, beq_iff_eq, beq_iff_eq]; omega
  have hdd : ((d : Int) == 0) = (d == 0) := by rw [Bool.eq_iff_iff, beq_iff_eq, beq_iff_eq]; omega
  cases c1 : isSy z [40]
  case true =>
    rw [x1 c1, x2 c1] at hpre
    rw [c1] at s1 hpre
    simp only [Bool.or_self, Bool.and_false, Bool.false_eq_true, if_false, if_true] at hpre
    repeat (first
      | (apply axJ; (focus ((with_reducible constructor) <;> rfl)))
      | (apply awT mixedOK hΓ (by kernel_rfl); (simp (disch := omega) only [go_sem, ↓reduceIte, dk, ↓lk, Int.reduceBEq, Int.reduceBNe, Bool.true_bne, Bool.false_bne, Bool.not_true, Bool.not_false, hz, s1] <;> with_reducible rfl))
      | ((first | apply awR hΓ | apply awG | apply awH mixedOK hΓ rfl (by kernel_rfl) | apply ovE rfl); (simp (disch := omega) only [go_sem, ↓reduceIte, dk, ↓lk, Int.reduceBEq, Int.reduceBNe, Bool.true_bne, Bool.false_bne, Bool.not_true, Bool.not_false, hz, s1] <;> with_reducible rfl); exact trivial)
      | rfl)
    exact ⟨(i + 1, fr, d + 1 + 1, out), .inr ⟨⟨by dsimp only; omega, by dsimp only; omega⟩, ⟨f1, by dsimp only; omega⟩, ⟨by dsimp only; omega, by dsimp only; omega⟩, by dsimp only; omega, by dsimp only; rw [Nat.add_sub_cancel, hot]; exact hpre⟩, by dsimp only; omega, Weak.w⟩
  rw [c1] at s1
  cases c2 : isSy z [41]
  case true =>
    rw [c1, c2] at hpre
    rw [c2] at s2
    have c3 := x3 c2
    rw [c3] at s3
    by_cases hd : d = 0
    · subst hd
      simp only [Bool.true_or, Bool.and_true, beq_self_eq_true, if_true] at hpre
      cases he : ((i : Int) == (fr : Int))
      · rw [he] at hpre
        simp only [Bool.false_eq_true, if_false] at hpre
        rw [hpre]
        unfold eAp
        dsimp only
        rw [hmo]
        have hz0 : (((0 : Nat) : Int) == 0) = true := rfl
        repeat (first
          | (apply axJ; (focus ((with_reducible constructor) <;> rfl)))
          | (apply awT mixedOK hΓ (by kernel_rfl); (simp (disch := omega) only [go_sem, ↓reduceIte, dk, ↓lk, Int.reduceBEq, Int.reduceBNe, Bool.true_bne, Bool.false_bne, Bool.not_true, Bool.not_false, Int.toNat_natCast, hz, s1, s2, s3, hdc, hz0, he, q1, q2, hi1] <;> with_reducible rfl))
          | ((first | apply awR hΓ | apply awG | apply awH mixedOK hΓ rfl (by kernel_rfl) | apply ovE rfl); (simp (disch := omega) only [go_sem, ↓reduceIte, dk, ↓lk, Int.reduceBEq, Int.reduceBNe, Bool.true_bne, Bool.false_bne, Bool.not_true, Bool.not_false, Int.toNat_natCast, hz, s1, s2, s3, hdc, hz0, he, q1, q2, hi1] <;> with_reducible rfl); exact trivial)
          | rfl)
        try rfl
      · rw [he] at hpre
        simp only [if_true] at hpre
        rw [hpre]
        have hz0 : (((0 : Nat) : Int) == 0) = true := rfl
        repeat (first
          | (apply axJ; (focus ((with_reducible constructor) <;> rfl)))
          | (apply awT mixedOK hΓ (by kernel_rfl); (simp (disch := omega) only [go_sem, ↓reduceIte, dk, ↓lk, Int.reduceBEq, Int.reduceBNe, Bool.true_bne, Bool.false_bne, Bool.not_true, Bool.not_false, Int.toNat_natCast, hz, s1, s2, s3, hdc, hz0, he] <;> with_reducible rfl))
          | ((first | apply awR hΓ | apply awG | apply awH mixedOK hΓ rfl (by kernel_rfl) | apply ovE rfl); (simp (disch := omega) only [go_sem, ↓reduceIte, dk, ↓lk, Int.reduceBEq, Int.reduceBNe, Bool.true_bne, Bool.false_bne, Bool.not_true, Bool.not_false, Int.toNat_natCast, hz, s1, s2, s3, hdc, hz0, he] <;> with_reducible rfl); exact trivial)
          | rfl)
        try rfl
    · have hdf : (d == 0) = false := by rw [beq_eq_false_iff_ne]; exact hd
      rw [hdf] at hdd hpre
      simp only [Bool.false_and, Bool.false_eq_true, if_false, if_true] at hpre
      cases hq : ((d : Int) == 1)
      all_goals
        repeat (first
          | (apply axJ; (focus ((with_reducible constructor) <;> rfl)))
          | (apply awT mixedOK hΓ (by kernel_rfl); (simp (disch := omega) only [go_sem, ↓reduceIte, dk, ↓lk, Int.reduceBEq, Int.reduceBNe, Bool.true_bne, Bool.false_bne, Bool.not_true, Bool.not_false, Int.toNat_natCast, hz, s1, s2, s3, hdc, hdd, hq] <;> with_reducible rfl))
          | ((first | apply awR hΓ | apply awG | apply awH mixedOK hΓ rfl (by kernel_rfl) | apply ovE rfl); (simp (disch := omega) only [go_sem, ↓reduceIte, dk, ↓lk, Int.reduceBEq, Int.reduceBNe, Bool.true_bne, Bool.false_bne, Bool.not_true, Bool.not_false, Int.toNat_natCast, hz, s1, s2, s3, hdc, hdd, hq] <;> with_reducible rfl); exact trivial)
          | rfl)
        exact ⟨(i + 1, fr, d, out), .inr ⟨⟨by dsimp only; omega, by dsimp only; omega⟩, ⟨f1, by dsimp only; omega⟩, ⟨by dsimp only; omega, by dsimp only; omega⟩, by dsimp only; omega, by dsimp only; rw [hot]; exact hpre⟩, by dsimp only; omega, Weak.v (by (simp [ConvF, lookV, Conv, ints, hdc]; done)) (by (simp (disch := omega) only [TabSub, look, if_pos, if_neg, Obj.refsOK, refsOKs, AV.refsOK, decide_eq_true_eq, Bool.and_true, Bool.and_self, hdc] ) <;> ((repeat' apply And.intro) <;> first | exact True.intro | omega | (simp; done) | rfl))⟩
  rw [c1, c2] at hpre
  rw [c2] at s2
  cases c3 : isSy z [44]
  case true =>
    rw [c3] at hpre s3
    by_cases hd : d = 0
    · subst hd
      simp only [Bool.or_true, Bool.and_true, beq_self_eq_true, if_true, Bool.false_eq_true, if_false] at hpre
      rw [show ((0 : Nat) == 0) = true from rfl] at hd1
      cases he : ((i : Int) == (fr : Int))
      · rw [he] at hpre
        simp only [Bool.false_eq_true, if_false] at hpre
        repeat (first
          | (apply axJ; (focus ((with_reducible constructor) <;> rfl)))
          | (apply awT mixedOK hΓ (by kernel_rfl); (simp (disch := omega) only [go_sem, ↓reduceIte, dk, ↓lk, Int.reduceBEq, Int.reduceBNe, Bool.true_bne, Bool.false_bne, Bool.not_true, Bool.not_false, Int.toNat_natCast, hz, s1, s2, s3, hd0, hd1, he, q1] <;> with_reducible rfl))
          | ((first | apply awR hΓ | apply awG | apply awH mixedOK hΓ rfl (by kernel_rfl) | apply ovE rfl); (simp (disch := omega) only [go_sem, ↓reduceIte, dk, ↓lk, Int.reduceBEq, Int.reduceBNe, Bool.true_bne, Bool.false_bne, Bool.not_true, Bool.not_false, Int.toNat_natCast, hz, s1, s2, s3, hd0, hd1, he, q1] <;> with_reducible rfl); exact trivial)
          | rfl)
        exact ⟨(i + 1, i + 1, 0 + 1, out ++ [one]), .inr ⟨⟨by dsimp only; omega, by dsimp only; omega⟩, ⟨by dsimp only; omega, Nat.le_refl _⟩, ⟨by dsimp only; omega, by dsimp only; omega⟩, by dsimp only; rw [List.length_append]; simp only [List.length_cons, List.length_nil]; omega, by dsimp only; rw [Nat.sub_self (i + 1), List.take_zero]; exact hpre⟩, by dsimp only; omega, by dsimp only; rw [hmo]; exact Weak.v (by (simp [ConvF, lookV, Conv, ints, List.length_append]; done)) (by (simp (disch := omega) only [TabSub, look, if_pos, if_neg, Obj.refsOK, refsOKs, AV.refsOK, decide_eq_true_eq, Bool.and_true, Bool.and_self, List.length_append] ) <;> ((repeat' apply And.intro) <;> first | exact True.intro | omega | (simp; done) | rfl))⟩
      · rw [he] at hpre
        simp only [if_true] at hpre
        rw [hpre]
        repeat (first
          | (apply axJ; (focus ((with_reducible constructor) <;> rfl)))
          | (apply awT mixedOK hΓ (by kernel_rfl); (simp (disch := omega) only [go_sem, ↓reduceIte, dk, ↓lk, Int.reduceBEq, Int.reduceBNe, Bool.true_bne, Bool.false_bne, Bool.not_true, Bool.not_false, Int.toNat_natCast, hz, s1, s2, s3, hd0, hd1, he] <;> with_reducible rfl))
          | ((first | apply awR hΓ | apply awG | apply awH mixedOK hΓ rfl (by kernel_rfl) | apply ovE rfl); (simp (disch := omega) only [go_sem, ↓reduceIte, dk, ↓lk, Int.reduceBEq, Int.reduceBNe, Bool.true_bne, Bool.false_bne, Bool.not_true, Bool.not_false, Int.toNat_natCast, hz, s1, s2, s3, hd0, hd1, he] <;> with_reducible rfl); exact trivial)
          | rfl)
        try rfl
    · have hdf : (d == 0) = false := by rw [beq_eq_false_iff_ne]; exact hd
      rw [hdf] at hd1 hpre
      simp only [Bool.false_and, Bool.false_eq_true, if_false] at hpre
      repeat (first
        | (apply axJ; (focus ((with_reducible constructor) <;> rfl)))
        | (apply awT mixedOK hΓ (by kernel_rfl); (simp (disch := omega) only [go_sem, ↓reduceIte, dk, ↓lk, Int.reduceBEq, Int.reduceBNe, Bool.true_bne, Bool.false_bne, Bool.not_true, Bool.not_false, Int.toNat_natCast, hz, s1, s2, s3, hd0, hd1] <;> with_reducible rfl))
        | ((first | apply awR hΓ | apply awG | apply awH mixedOK hΓ rfl (by kernel_rfl) | apply ovE rfl); (simp (disch := omega) only [go_sem, ↓reduceIte, dk, ↓lk, Int.reduceBEq, Int.reduceBNe, Bool.true_bne, Bool.false_bne, Bool.not_true, Bool.not_false, Int.toNat_natCast, hz, s1, s2, s3, hd0, hd1] <;> with_reducible rfl); exact trivial)
        | rfl)
      exact ⟨(i + 1, fr, d + 1, out), .inr ⟨⟨by dsimp only; omega, by dsimp only; omega⟩, ⟨f1, by dsimp only; omega⟩, ⟨by dsimp only; omega, by dsimp only; omega⟩, by dsimp only; omega, by dsimp only; rw [Nat.add_sub_cancel, hot]; exact hpre⟩, by dsimp only; omega, Weak.w⟩
  rw [c3] at hpre s3
  simp only [Bool.or_self, Bool.and_false, Bool.false_eq_true, if_false] at hpre
  cases hdf : (d == 0)
  all_goals
    rw [hdf] at hd1
    repeat (first
      | (apply axJ; (focus ((with_reducible constructor) <;> rfl)))
      | (apply awT mixedOK hΓ (by kernel_rfl); (simp (disch := omega) only [go_sem, ↓reduceIte, dk, ↓lk, Int.reduceBEq, Int.reduceBNe, Bool.true_bne, Bool.false_bne, Bool.not_true, Bool.not_false, Int.toNat_natCast, hz, s1, s2, s3, hd0, hd1] <;> with_reducible rfl))
      | ((first | apply awR hΓ | apply awG | apply awH mixedOK hΓ rfl (by kernel_rfl) | apply ovE rfl); (simp (disch := omega) only [go_sem, ↓reduceIte, dk, ↓lk, Int.reduceBEq, Int.reduceBNe, Bool.true_bne, Bool.false_bne, Bool.not_true, Bool.not_false, Int.toNat_natCast, hz, s1, s2, s3, hd0, hd1] <;> with_reducible rfl); exact trivial)
      | rfl)
    exact ⟨(i + 1, fr, d + 1, out), .inr ⟨⟨by dsimp only; omega, by dsimp only; omega⟩, ⟨f1, by dsimp only; omega⟩, ⟨by dsimp only; omega, by dsimp only; omega⟩, by dsimp only; omega, by dsimp only; rw [Nat.add_sub_cancel, hot]; exact hpre⟩, by dsimp only; omega, Weak.w⟩
end Go.Ab
namespace Go.Ab
open Go Go.RowKit Go.Proofs
set_option maxRecDepth 100000
set_option maxHeartbeats 40000000
theorem eq_nilW (ao : Option Addr) (n cap : Nat) (w : World) : (binOp BinOp.eql 76 (.slice ao n cap) (.slice none 0 0)).run Tryz.prog w = .ok (.bool ao.isNone) w := by
  have heq : ∀ k, (Op.equalIn (k + 1) 76 (.slice ao n cap) (.slice none 0 0)).run Tryz.prog w = .ok ao.isNone w := fun k => by
    simp only [Op.equalIn, Sem.run_bind, run_underlying ty_und76, Result.andThen_ok, Sem.run_pure]
    cases ao <;> simp
  have h2 : (Op.equal 76 (.slice ao n cap) (.slice none 0 0)).run Tryz.prog w = .ok ao.isNone w := heq 9999
  simp only [binOp, Sem.run_bind, h2, Result.andThen_ok, Sem.run_pure]
theorem callCloW (ao : Option Addr) (cap : Nat) (w : World) :
    Calls Tryz.prog 63 #[.slice ao 0 cap] w fun e w' => ∃ v, e = .returned v ∧ ownsM w' w.heap.size 79 3 v 0 [] ∧ Below w.heap.size w w' := by
  cases ao with
  | none =>
    go_enter Tryz.func63, Tryz.ntmps63
    go_wp2
    rw [eq_nilW]
    simp only [Result.andThen]
    rw [Oper.upon_value]
    go_wp2
    go_ret
    exact ⟨_, rfl, ⟨rfl, .inl ⟨rfl, rfl⟩⟩, Below.refl _ _⟩
  | some a =>
    go_enter Tryz.func63, Tryz.ntmps63
    go_wp2
    rw [eq_nilW]
    simp only [Result.andThen]
    rw [Oper.upon_value]
    go_wp2
    go_ret
    exact ⟨_, rfl, ownsM_lit w #[] 0 (Nat.le_refl _) (Nat.zero_le _) rfl, (Below.refl _ _).alloc (Nat.le_refl _) _⟩
theorem f_cloW_ex : ∃ g, OwnOK Tryz.prog 63 g ∧ ∀ l : List Wd, l.length ≤ 1099511627776 ∧ l ≠ [] → ∃ m, m = l.map eWd ∧ g [.list (l.map eWd)] = some (79, 3, m) := by
  have hΓ := Γ0_ok
  refine own_ex (enc := fun l : List Wd => [.list (l.map eWd)]) (dom := fun l => l.length ≤ 1099511627776 ∧ l ≠ []) (good := fun l m => m = l.map eWd) (t := 79) (sz := 3) (n := 8) (rs := [.tmp 2]) (by omega) Tryz.func63 (by kernel_rfl) rfl (by kernel_rfl) (by kernel_rfl) (fun a b h => by
    simp only [List.cons.injEq, and_true, D.list.injEq] at h
    exact cast (eWd_ie _ _) h) ?_
  rintro l ⟨hl, hne⟩
  obtain ⟨x, l, rfl⟩ := List.exists_cons_of_ne_nil hne
  refine ⟨fun l' hm => hm ▸ elemsOK_map (f := eWd) (sz := 3) wd_cells _, ?_⟩
  rw [List.map_cons, eWd_eq]
  have hom := hid_one x.2
  generalize hidD x.2 = hx at *
  unfold D.one at hom
  rw [start_frame (by simp)]; simp only [enumV, go_sem, emptyH]
  have hem : elemsOK 3 (l.map eWd) = true := elemsOK_map (f := eWd) (sz := 3) wd_cells l
  have hml : (l.map eWd).length + 1 ≤ 1099511627776 := by simpa using hl
  generalize l.map eWd = m at *
  (repeat (first | (apply axJ; (focus ((with_reducible constructor) <;> rfl))) | ((first | apply axR hΓ | apply axG | apply ovX rfl | apply ovE rfl); (simp (disch := omega) only [go_sem, ↓reduceIte, ↓lk, dk, hem, hom] <;> with_reducible rfl); exact trivial) | rfl))
  exact reto_x (o := 3) (l := .agg [i64 x.1.1, .str x.1.2, hx] :: m) rfl (by simp [go_sem]) rfl rfl
open Classical in
noncomputable def g_cloW : List D → Option (TypeId × Nat × List D) := fun ds => if ds = [.list []] then some (79, 3, []) else f_cloW_ex.choose ds
theorem g_cloW_eq {l : List Wd} (h : l.length ≤ 1099511627776) : g_cloW [.list (l.map eWd)] = some (79, 3, l.map eWd) := by
  cases l with
  | nil => rw [List.map_nil]; exact if_pos rfl
  | cons x l =>
    obtain ⟨m, rfl, h2⟩ := f_cloW_ex.choose_spec.2 (x :: l) ⟨h, by simp⟩
    rw [← h2]
    exact if_neg (by simp)
theorem f_cloW_ok : OwnOK Tryz.prog 63 g_cloW := by
  intro ds e sz l hd
  unfold g_cloW at hd
  by_cases hds : ds = [.list []]
  · rw [if_pos hds] at hd
    cases hd
    subst hds
    refine ⟨by omega, by simp, by simp [flat], fun w B vs hB hz hvs => ⟨⟨_, Tryz.func63, rfl, rfl⟩, ?_⟩⟩
    obtain ⟨u, hu⟩ : ∃ u, vs[0]? = some u := ⟨_, Array.getElem?_eq_getElem (by simp at hz; omega)⟩
    obtain ⟨ao, cap, hv, _⟩ := (hvs 0 (by simp) u hu).list_inv
    have hvs2 : vs = #[.slice ao 0 cap] := by
      apply Array.ext_getElem?
      intro i
      match i with
      | 0 => rw [hu, hv]; rfl
      | i + 1 => rw [Array.getElem?_eq_none (by simp at hz; omega), Array.getElem?_eq_none (by simp)]
    rw [hvs2]
    refine (callCloW ao cap w).mono ?_
    rintro e w' ⟨v, rfl, ho, hb⟩
    exact ⟨_, rfl, ⟨[], ho, fun i hi => by simp [flat] at hi⟩, hb⟩
  · rw [if_neg hds] at hd
    exact f_cloW_ex.choose_spec.1 ds e sz l hd
theorem eq_nilS7 (ao : Option Addr) (n cap : Nat) (w : World) : (binOp BinOp.eql 34 (.slice ao n cap) (.slice none 0 0)).run Tryz.prog w = .ok (.bool ao.isNone) w := by
  have heq : ∀ k, (Op.equalIn (k + 1) 34 (.slice ao n cap) (.slice none 0 0)).run Tryz.prog w = .ok ao.isNone w := fun k => by
    simp only [Op.equalIn, Sem.run_bind, run_underlying ty_und34, Result.andThen_ok, Sem.run_pure]
    cases ao <;> simp
  have h2 : (Op.equal 34 (.slice ao n cap) (.slice none 0 0)).run Tryz.prog w = .ok ao.isNone w := heq 9999
  simp only [binOp, Sem.run_bind, h2, Result.andThen_ok, Sem.run_pure]
theorem callCloS7 (ao : Option Addr) (cap : Nat) (w : World) :
    Calls Tryz.prog 67 #[.slice ao 0 cap] w fun e w' => ∃ v, e = .returned v ∧ ownsM w' w.heap.size 26 3 v 0 [] ∧ Below w.heap.size w w' := by
  cases ao with
  | none =>
    go_enter Tryz.func67, Tryz.ntmps67
    go_wp2
    rw [eq_nilS7]
    simp only [Result.andThen]
    rw [Oper.upon_value]
    go_wp2
    go_ret
    exact ⟨_, rfl, ⟨rfl, .inl ⟨rfl, rfl⟩⟩, Below.refl _ _⟩
  | some a =>
    go_enter Tryz.func67, Tryz.ntmps67
    go_wp2
    rw [eq_nilS7]
    simp only [Result.andThen]
    rw [Oper.upon_value]
    go_wp2
    go_ret
    exact ⟨_, rfl, ownsM_lit w #[] 0 (Nat.le_refl _) (Nat.zero_le _) rfl, (Below.refl _ _).alloc (Nat.le_refl _) _⟩
theorem f_cloS7_ex : ∃ g, OwnOK Tryz.prog 67 g ∧ ∀ l : List Sp, l.length ≤ 1099511627776 ∧ l ≠ [] → ∃ m, m = l.map eSp ∧ g [.list (l.map eSp)] = some (26, 3, m) := by
  have hΓ := Γ0_ok
  refine own_ex (enc := fun l : List Sp => [.list (l.map eSp)]) (dom := fun l => l.length ≤ 1099511627776 ∧ l ≠ []) (good := fun l m => m = l.map eSp) (t := 26) (sz := 3) (n := 8) (rs := [.tmp 2]) (by omega) Tryz.func67 (by kernel_rfl) rfl (by kernel_rfl) (by kernel_rfl) (fun a b h => by
    simp only [List.cons.injEq, and_true, D.list.injEq] at h
    exact cast (eSp_ie _ _) h) ?_
  rintro l ⟨hl, hne⟩
  obtain ⟨x, l, rfl⟩ := List.exists_cons_of_ne_nil hne
  refine ⟨fun l' hm => hm ▸ elemsOK_map (f := eSp) (sz := 3) (fun _ => ⟨rfl, rfl⟩) _, ?_⟩
  rw [List.map_cons, eSp_eq]
  rw [start_frame (by simp)]; simp only [enumV, go_sem, emptyH]
  have hem : elemsOK 3 (l.map eSp) = true := elemsOK_map (f := eSp) (sz := 3) (fun _ => ⟨rfl, rfl⟩) l
  have hml : (l.map eSp).length + 1 ≤ 1099511627776 := by simpa using hl
  generalize l.map eSp = m at *
  (repeat (first | (apply axJ; (focus ((with_reducible constructor) <;> rfl))) | ((first | apply axR hΓ | apply axG | apply ovX rfl | apply ovE rfl); (simp (disch := omega) only [go_sem, ↓reduceIte, ↓lk, dk, hem] <;> with_reducible rfl); exact trivial) | rfl))
  exact reto_x (o := 3) (l := eSp x :: m) rfl (by simp [go_sem]) rfl rfl
open Classical in
noncomputable def g_cloS7 : List D → Option (TypeId × Nat × List D) := fun ds => if ds = [.list []] then some (26, 3, []) else f_cloS7_ex.choose ds
theorem g_cloS7_eq {l : List Sp} (h : l.length ≤ 1099511627776) : g_cloS7 [.list (l.map eSp)] = some (26, 3, l.map eSp) := by
  cases l with
  | nil => rw [List.map_nil]; exact if_pos rfl
  | cons x l =>
    obtain ⟨m, rfl, h2⟩ := f_cloS7_ex.choose_spec.2 (x :: l) ⟨h, by simp⟩
    rw [← h2]
    exact if_neg (by simp)
theorem f_cloS7_ok : OwnOK Tryz.prog 67 g_cloS7 := by
  intro ds e sz l hd
  unfold g_cloS7 at hd
  by_cases hds : ds = [.list []]
  · rw [if_pos hds] at hd
    cases hd
    subst hds
    refine ⟨by omega, by simp, by simp [flat], fun w B vs hB hz hvs => ⟨⟨_, Tryz.func67, rfl, rfl⟩, ?_⟩⟩
    obtain ⟨u, hu⟩ : ∃ u, vs[0]? = some u := ⟨_, Array.getElem?_eq_getElem (by simp at hz; omega)⟩
    obtain ⟨ao, cap, hv, _⟩ := (hvs 0 (by simp) u hu).list_inv
    have hvs2 : vs = #[.slice ao 0 cap] := by
      apply Array.ext_getElem?
      intro i
      match i with
      | 0 => rw [hu, hv]; rfl
      | i + 1 => rw [Array.getElem?_eq_none (by simp at hz; omega), Array.getElem?_eq_none (by simp)]
    rw [hvs2]
    refine (callCloS7 ao cap w).mono ?_
    rintro e w' ⟨v, rfl, ho, hb⟩
    exact ⟨_, rfl, ⟨[], ho, fun i hi => by simp [flat] at hi⟩, hb⟩
  · rw [if_neg hds] at hd
    exact f_cloS7_ex.choose_spec.1 ds e sz l hd
end Go.Ab
namespace Go.Ab
open Go Go.RowKit
section
variable {c : Ctx} {H : Heap} {θ : Nat → Value} {w : World}
theorem freeze_map (hs : HSim c H θ w) {ob : Nat} {ks vs : List D} (hg : H.get ob = some (.map ks vs)) :
    HSim c (H.set ob .dead) θ w ∧ (∀ y u, VR H θ w (vis c H θ w) y u → VR (H.set ob .dead) θ w (vis c (H.set ob .dead) θ w) y u) ∧ (∀ b, vis c H θ w b → vis c (H.set ob .dead) θ w b) ∧ HLe H θ (H.set ob .dead) θ ∧
      ∀ v, VR H θ w (vis c H θ w) (.mref ob) v → DR w (vis c (H.set ob .dead) θ w) (.map ks vs) v := by
  have hown : ∀ b, own (H.set ob .dead) θ b → ∃ o y, o ≠ ob ∧ H.get o = some y ∧ y.live = true ∧ blk (θ o) = some b := by
    rintro b ⟨o, y, hgo, hy, hb⟩
    rw [Heap.get_set] at hgo
    by_cases ho : o = ob
    · rw [if_pos ho] at hgo
      cases hgo
      cases hy
    · rw [if_neg ho] at hgo
      exact ⟨o, y, ho, hgo, hy, hb⟩
  have hv : ∀ b, vis c H θ w b → vis c (H.set ob .dead) θ w b := fun b ⟨h1, h2, h3⟩ => ⟨h1, fun h => by
    obtain ⟨o, y, _, k1, k2, k3⟩ := hown b h
    exact h2 ⟨o, y, k1, k2, k3⟩, h3⟩
  have hle : HLe H θ (H.set ob .dead) θ := by
    refine ⟨fun o ho => Heap.ref_set ho, fun o x' ho h => ?_⟩
    rw [Heap.get_set] at h
    by_cases hoo : o = ob
    · rw [if_pos hoo] at h
      cases h
      subst hoo
      exact ⟨_, hg, trivial, fun _ => rfl⟩
    · rw [if_neg hoo] at h
      exact ⟨x', h, x'.evo_refl, fun _ => rfl⟩
  have hvr : ∀ y u, VR H θ w (vis c H θ w) y u → VR (H.set ob .dead) θ w (vis c (H.set ob .dead) θ w) y u := fun y u h => h.mono (fun b hb => ⟨hv b hb, rfl⟩) hle
  refine ⟨⟨hs.size, fun o y hgo => ?_, fun o o' y y' hgo hgo' hy hy' hne b hb hb' => ?_⟩, hvr, hv, hle, fun v hx => ?_⟩
  · rw [Heap.get_set] at hgo
    by_cases ho : o = ob
    · rw [if_pos ho] at hgo
      cases hgo
      trivial
    · rw [if_neg ho] at hgo
      exact (hs.objs o y hgo).mono (fun b hb => ⟨hv b hb, rfl⟩) hle (fun _ _ _ => rfl)
  · rw [Heap.get_set] at hgo hgo'
    by_cases ho : o = ob
    · rw [if_pos ho] at hgo
      cases hgo
      cases hy
    · rw [if_neg ho] at hgo
      by_cases ho' : o' = ob
      · rw [if_pos ho'] at hgo'
        cases hgo'
        cases hy'
      · rw [if_neg ho'] at hgo'
        exact hs.inj o o' y y' hgo hgo' hy hy' hne b hb hb'
  · obtain ⟨b, clock, es, rfl, hθ, hw, hi, h6, h7, hst, h8, h9⟩ := map_val hs hx hg
    refine .map _ _ b clock es ⟨heap_lt hw, fun h => ?_, fun hlt => .inr ?_⟩ hw h6 h7 hst (fun i hi e he => (h8 i hi e he).mono fun b hb => ⟨hv b hb, rfl⟩) (fun i hi e he => (h9 i hi e he).mono fun b hb => ⟨hv b hb, rfl⟩)
    · obtain ⟨o, y, k0, k1, k2, k3⟩ := hown b h
      exact hs.inj ob o _ y hg k1 rfl k2 (Ne.symm k0) b (by rw [hθ]; rfl) k3
    · rcases hi with h | h
      · omega
      · exact h
end
theorem Weak.mapF {b m i o n : Nat} {t : List (Nat × AV)} {tab : List (Nat × Obj)} {ks vs : List D} (him : i < m) (hi : lookV t i = .mref o) (hg : look tab o = some (.map ks vs)) :
    Weak b (frame m t) ⟨tab, n⟩ (frame m ((i, .data (.map ks vs)) :: t)) ⟨upd tab o .dead, n⟩ := by
  have h : Weak b (frame m t) ⟨tab, n⟩ ((frame m t).set i (.data (.map ks vs))) ((⟨tab, n⟩ : Heap).set o .dead) := fun c θ w a hc hs => by
    have hg' : (⟨tab, n⟩ : Heap).get o = some (.map ks vs) := hg
    obtain ⟨q1, q2, q3, q4, q5⟩ := freeze_map hs.st.sim hg'
    refine ⟨θ, ⟨⟨q1, hs.st.defers, by simp [hs.st.size], fun j x v hx hv => ?_⟩, fun p hp => ?_, hs.base⟩, q4.evo (by rw [← hc]; exact hs.base)⟩
    · rw [List.getElem?_set] at hx
      by_cases hij : i = j
      · subst hij
        rw [if_pos rfl] at hx
        split at hx
        · cases hx
          exact .data _ _ (q5 v (hs.st.vals i (.mref o) v (by rw [frame_at, if_pos him, hi]) hv))
        · cases hx
      · rw [if_neg hij] at hx
        exact q2 x v (hs.st.vals j x v hx hv)
    · rw [Heap.get_set] at hp
      by_cases h : p = o
      · subst h; exact hs.wf p (by rw [hg']; rfl)
      · rw [if_neg h] at hp; exact hs.wf p hp
  rw [frame_set, if_pos him] at h
  exact h
end Go.Ab
namespace Go.Ab
open Go Go.RowKit
section
variable {P : Program} {c : Ctx} {H : Heap} {θ : Nat → Value} {w : World} {sl : List AV} {a : Act} {o : Oper} {Γ : FuncId → Option CSpec}
end
end Go.Ab
namespace Go.Ab
open Go Go.RowKit
section
variable {P : Program} {c : Ctx} {H H' : Heap} {θ : Nat → Value} {w : World} {sl : List AV} {a : Act} {o : Oper} {Γ : FuncId → Option CSpec}
theorem y_insert (hs : St c H θ w sl a) {t : TypeId} {m i x : Operand} (ho : o.op = .insert t m i x) (h : amapUpdate P H t (aev sl m) (aev sl i) (aev sl x) = some H') : Yields P c o a w sl H θ .junk H' := by
  have h' := y_mapUpdate (o := { o with op := .mapUpdate t m i x }) hs rfl h
  have e : execOp a.eval o = execOp a.eval { o with op := .mapUpdate t m i x } := by simp only [execOp, ho]
  intro K Q hk
  have := h' K Q hk
  unfold Oper.wp at this ⊢
  rw [e]
  exact this
theorem awp_regI {ops : Array Oper} {id n k1 m1 : Nat} {nst : Bool} (i : Nat) {t : TypeId} {mm mi mx : Operand} {sl sl1 : List AV} {tab tab1 : List (Nat × Obj)} {H2 : Heap} {Q : Exit → List AV → Heap → Prop}
    (hΓ : ∀ f s, Γ f = some s → SpecOK P f s) (ho : ops.toList = ops.toList.take i ++ o :: ops.toList.drop (i + 1)) (hop : o.op = .insert t mm mi mx) (hg : o.guard = none)
    (h1 : runTill P Γ nst ops n (ops.toList.take i) sl ⟨tab, n⟩ = some (k1, sl1, ⟨tab1, m1⟩)) (h2 : amapUpdate P ⟨tab1, m1⟩ t (aev sl1 mm) (aev sl1 mi) (aev sl1 mx) = some H2)
    (hrest : ∃ sl' H', runOps P Γ nst ops (nextK k1 H2) (ops.toList.drop (i + 1)) (putA sl1 o.dst .junk) H2 = some (sl', H') ∧ Q .normal sl' H') : awp P c (.region id ops false) Q sl ⟨tab, n⟩ := by
  intro θ w a hs
  refine wp_region_list ?_
  rw [ho]
  refine runTill_sound hΓ (ops.toList.take i) n k1 sl ⟨tab, n⟩ θ w a sl1 ⟨tab1, m1⟩ h1 hs.st hs.wf (Nat.le_refl _) fun a1 w1 θ1 hs1 hb1 hn1 hkk hk1 hl1 => ?_
  refine wpList_step fun K hK => ?_
  rw [if_pos (wanted_sound hs1 (b := true) (by unfold wantedA; rw [hg]))]
  refine y_insert hs1 hop h2 K _ fun v w2 θ2 hv hs2 hk2 hl2 => hK _ _ ?_
  obtain ⟨sl', H', hrun, hQ⟩ := hrest
  have hkey := (amapUpdate_keys h2).ok hb1
  refine runOps_sound hΓ _ _ _ _ θ2 w2 _ sl' H' hrun (hs2.putA hv _) hkey.2 (nextK_ge _ _) fun a' w' θ' hs' hb hn hk hl => ?_
  exact ⟨sl', _, θ', hQ, ⟨hs', hb, Nat.le_trans hs.base (by have := nextK_gt k1 H2; show n ≤ _; omega)⟩, (hk1.trans hk2).trans hk, ((hl1.trans hl2).trans hl).evo hs.base⟩
end
end Go.Ab
