/-
  One text of the proof (own work): contracts of functions of the program, by the abstract machine.
-/
import Derived.Test.YtdodjhiofpiaaaaGreatDoorX19
import Derived.Test.YtdodjhiofpiaaaaGreatDoorX25
set_option linter.unusedVariables false
set_option linter.unusedSimpArgs false
namespace Go.Ab
open Go Go.RowKit Go.Proofs
set_option maxRecDepth 10000
set_option maxHeartbeats 16000000
def eSR (p : Stp × Bool) : D := .tup [eSt p.1, .bool p.2]
noncomputable def g_step14 : List D → Option D := encSpec (fun x : (List Gp) => [.list (x.map eGp)]) (fun x : (List Gp) => x ≠ [] ∧ x.length ≤ 1099511627776 ∧ (formS x).length ≤ 1099511627776 ∧ (∀ g ∈ x, g.words.length ≤ 1099511627776) ∧ NoBl x) (fun x : (List Gp) => eSR (stepR x))
theorem g_step14_eq {l : List Gp} (hd : l ≠ [] ∧ l.length ≤ 1099511627776 ∧ (formS l).length ≤ 1099511627776 ∧ (∀ g ∈ l, g.words.length ≤ 1099511627776) ∧ NoBl l) : g_step14 [.list (l.map eGp)] = some (eSR (stepR l)) := encSpec_eq (x := l) hd fun y hy => by
    simp only [List.cons.injEq, and_true, true_and, D.str.injEq, D.int.injEq, D.list.injEq, D.bool.injEq, D.agg.injEq, D.clo.injEq, Int.natCast_inj, inj_ie, eGps_ie] at hy
    rw [hy]
theorem f_step14_ok : PureOK Tryz.prog 52 false g_step14 := by
  have hΓ := Γp f_form14_ok (Γp f_someR_ok (Γp f_firstR_ok (Γn)))
  refine pure_enc (n := 144) (rs := [.cell 2 31, .tmp 3]) Tryz.func52 (by kernel_rfl) rfl (by kernel_rfl) (by kernel_rfl) ?_
  rintro l hd
  (try dsimp only at hd ⊢)
  refine ⟨fun h => (by cases h), fun k hz0 => ?_⟩
  obtain ⟨hne, hl, hf, hw, hbl⟩ := hd
  have e1 := g_form14_eq ⟨hl, hf, hw⟩
  have hpos : 0 < l.length := List.length_pos_iff.2 hne
  have h0 : gAt l 0 = l[0].words := by unfold gAt; simp [List.getD, hpos]
  have b2 := cc2_is hbl
  have b5 := cc5_is hbl
  have b6 := cc6_is hbl
  have b7 := cc7_is hbl
  have b8 := cc8_is hbl
  have b9 := cc9_is hbl
  have s2 := g_someR_eq (s := formS l) (b := [99, 111, 109, 112, 105, 108, 101, 49, 32, 116, 111, 49, 32, 119, 105, 116, 104]) (e := []) ⟨hf, by decide, by decide⟩
  have s3 := g_someR_eq (s := formS l) (b := [97, 114, 99, 104, 105, 118, 101]) (e := [116, 111, 49, 32]) ⟨hf, by decide, by decide⟩
  have s4 := g_someR_eq (s := formS l) (b := [115, 104, 97, 114, 101]) (e := [116, 111, 49, 32]) ⟨hf, by decide, by decide⟩
  have s6 := g_someR_eq (s := formS l) (b := [108, 105, 110, 107, 43, 32, 117, 115, 105, 110, 103]) (e := [116, 111, 49, 32]) ⟨hf, by decide, by decide⟩
  have s8 := g_someR_eq (s := formS l) (b := [114, 117, 110, 49, 32, 117, 115, 105, 110, 103]) (e := [111, 110, 49, 32, 116, 111, 49, 32]) ⟨hf, by decide, by decide⟩
  rw [← cc2] at s2
  rw [← cc3] at s3
  rw [← cc4] at s4
  rw [← cc6] at s6
  rw [← cc8] at s8
  unfold stepR
  generalize formS l = s at *
  rw [start_frame (by simp)]; simp only [enumV, go_sem, emptyH]
  generalize hb : decide ((l.length : Int) > 1) = b
  generalize hy : l[0] = g0 at *
  repeat (first
    | (apply axJ; (focus ((with_reducible constructor) <;> rfl)))
    | (apply awT mixedOK hΓ (by kernel_rfl); (simp (disch := omega) only [go_sem, ↓reduceIte, dk, ↓lk, Int.reduceToNat, ↓ty_build31, hb, hy, e1] <;> with_reducible rfl))
    | ((first | apply awR hΓ | apply awG | apply awH mixedOK hΓ rfl (by kernel_rfl) | apply ovE rfl); (simp (disch := omega) only [go_sem, ↓reduceIte, dk, ↓lk, Int.reduceToNat, ↓ty_build31, hb, hy, e1] <;> with_reducible rfl); exact trivial)
    | rfl)
  refine awp_mid (fun _ : Unit => (frame 144 [(0, .data (.list (l.map eGp))), (2, .ptr 0 0), (4, .data (.str s)), (5, .ptr 10 0)])) (fun _ => [(0, .box [.data (.int .i64 0), .data (.int .i64 0), .nils, .nils, .nils, .data (.str [])]), (10, .box [.data (.int .i64 0), .data (.int .i64 0), .data (.list (g0.words.map .str)), .nils, .nils, .data (.str (outR l))])]) 30 (fun _ => True) ?_ ?_
  · cases b
    · have ho : outR l = [] := by unfold outR; rw [hb]; rfl
      rw [ho]
      repeat (first
        | (apply axJ; (focus ((with_reducible constructor) <;> rfl)))
        | (apply awT mixedOK hΓ (by kernel_rfl); (simp (disch := omega) only [go_sem, ↓reduceIte, dk, ↓lk] <;> with_reducible rfl))
        | ((first | apply awR hΓ | apply awG | apply awH mixedOK hΓ rfl (by kernel_rfl) | apply ovE rfl); (simp (disch := omega) only [go_sem, ↓reduceIte, dk, ↓lk] <;> with_reducible rfl); exact trivial)
        | rfl)
      exact ⟨(), trivial, Weak.w⟩
    · have hc : (l.length : Int) - 1 = ((l.length - 1 : Nat) : Int) := by omega
      have hm2 : l.length - 1 < l.length := by omega
      have ho : outR l = (l[l.length - 1].words).headD [] := by
        unfold outR gAt
        rw [hb]
        simp [List.getD, hm2]
      have hw2 := hw _ (List.getElem_mem hm2)
      rw [ho]
      generalize l.length - 1 = m at *
      generalize hyl : l[m] = gl at *
      have e3 := g_firstR_eq hw2
      repeat (first
        | (apply axJ; (focus ((with_reducible constructor) <;> rfl)))
        | (apply awT mixedOK hΓ (by kernel_rfl); (simp (disch := omega) only [go_sem, ↓reduceIte, dk, ↓lk, hyl, e3, hc] <;> with_reducible rfl))
        | ((first | apply awR hΓ | apply awG | apply awH mixedOK hΓ rfl (by kernel_rfl) | apply ovE rfl); (simp (disch := omega) only [go_sem, ↓reduceIte, dk, ↓lk, hyl, e3, hc] <;> with_reducible rfl); exact trivial)
        | rfl)
      exact ⟨(), trivial, Weak.w⟩
  · intro _ _
    clear hb e1
    unfold stepG
    have q1 : (s == [99, 111, 109, 112, 105, 108, 101, 49, 32, 116, 111, 49, 32]) = cc1 s := rfl
    have q5 : (s == [108, 105, 110, 107, 43, 32, 116, 111, 49, 32]) = cc5 s := rfl
    have q7 : (s == [114, 117, 110, 49, 32, 111, 110, 49, 32, 116, 111, 49, 32]) = cc7 s := rfl
    have q9 : (s == [112, 97, 116, 99, 104, 49, 32, 119, 105, 116, 104, 49, 32, 116, 111, 49, 32]) = cc9 s := rfl
    have q10 : (s == [99, 111, 112, 121, 49, 32, 116, 111, 49, 32]) = cc10 s := rfl
    have q11 : (s == [105, 110, 115, 116, 97, 108, 108, 49, 32, 97, 115, 49, 32]) = cc11 s := rfl
    generalize cc1 s = c1 at *
    generalize cc2 s = c2 at *
    generalize cc3 s = c3 at *
    generalize cc4 s = c4 at *
    generalize cc5 s = c5 at *
    generalize cc6 s = c6 at *
    generalize cc7 s = c7 at *
    generalize cc8 s = c8 at *
    generalize cc9 s = c9 at *
    generalize cc10 s = c10 at *
    generalize cc11 s = c11 at *
    cases c1
    rotate_left
    · repeat (first
      | (apply axJ; (focus ((with_reducible constructor) <;> rfl)))
      | (apply awT mixedOK hΓ (by kernel_rfl); (simp (disch := omega) only [go_sem, ↓reduceIte, dk, ↓lk, ↓ty_build31, s2, s3, s4, s6, s8, q1, q5, q7, q9, q10, q11, h0] <;> with_reducible rfl))
      | ((first | apply awR hΓ | apply awG | apply awH mixedOK hΓ rfl (by kernel_rfl) | apply ovE rfl); (simp (disch := omega) only [go_sem, ↓reduceIte, dk, ↓lk, ↓ty_build31, s2, s3, s4, s6, s8, q1, q5, q7, q9, q10, q11, h0] <;> with_reducible rfl); exact trivial)
      | rfl)
      rw [h0]
      rfl
    cases c2
    rotate_left
    · obtain ⟨x0, x1, x2, rfl⟩ := b2 rfl
      have hy : x0 = g0 := hy
      subst hy
      simp only [List.map_cons, List.map_nil, eGp_eq] at hl ⊢
      have e4 := g_firstR_eq (hw x1 (by simp))
      repeat (first
        | (apply axJ; (focus ((with_reducible constructor) <;> rfl)))
        | (apply awT mixedOK hΓ (by kernel_rfl); (simp (disch := omega) only [go_sem, ↓reduceIte, dk, ↓lk, ↓ty_build31, s2, s3, s4, s6, s8, q1, q5, q7, q9, q10, q11, e4] <;> with_reducible rfl))
        | ((first | apply awR hΓ | apply awG | apply awH mixedOK hΓ rfl (by kernel_rfl) | apply ovE rfl); (simp (disch := omega) only [go_sem, ↓reduceIte, dk, ↓lk, ↓ty_build31, s2, s3, s4, s6, s8, q1, q5, q7, q9, q10, q11, e4] <;> with_reducible rfl); exact trivial)
        | rfl)
      (apply awp_lane3 (nst := false) (nst' := false) [false, false, false, false, false, false, false, false, false, false, true, false, true] mixedOK hΓ (n1 := 13) (by kernel_rfl) (by kernel_rfl); (focus (dsimp only [List.take_succ_cons, List.take_zero, Array.toList]; (repeat (first | (apply lane3_loud; (focus rfl); (focus rfl); (simp (disch := omega) only [go_sem, ↓reduceIte, dk, ↓lk, ↓ty_build31, s2, s3, s4, s6, s8, q1, q5, q7, q9, q10, q11, e4, Int.reduceToNat, List.getElem?_cons_zero, List.getElem?_cons_succ, look_upd] <;> with_reducible rfl); (focus (first | (simp (disch := omega) only [go_sem, ↓reduceIte, dk, ↓lk, ↓ty_build31, s2, s3, s4, s6, s8, q1, q5, q7, q9, q10, q11, e4, Int.reduceToNat, List.getElem?_cons_zero, List.getElem?_cons_succ, look_upd]; done) | (simp (disch := omega) only [go_sem, ↓reduceIte, dk, ↓lk, ↓ty_build31, s2, s3, s4, s6, s8, q1, q5, q7, q9, q10, q11, e4, Int.reduceToNat, List.getElem?_cons_zero, List.getElem?_cons_succ, look_upd]; omega)))) | (apply lane3_quiet; (simp (disch := omega) only [go_sem, ↓reduceIte, dk, ↓lk, ↓ty_build31, s2, s3, s4, s6, s8, q1, q5, q7, q9, q10, q11, e4, Int.reduceToNat, List.getElem?_cons_zero, List.getElem?_cons_succ, look_upd] <;> with_reducible rfl)))); exact lane3_nil)); (focus ((repeat' (first | exact True.intro | refine And.intro ?_ ?_)); all_goals (first | (left; decide) | (left; rfl) | (right; simp (disch := omega) only [go_sem, ↓reduceIte, dk, ↓lk, ↓ty_build31, s2, s3, s4, s6, s8, q1, q5, q7, q9, q10, q11, e4, Int.reduceToNat, List.getElem?_cons_zero, List.getElem?_cons_succ, look_upd]; try with_reducible rfl)))); (simp (disch := omega) only [go_sem, ↓reduceIte, dk, ↓lk, ↓ty_build31, s2, s3, s4, s6, s8, q1, q5, q7, q9, q10, q11, e4, Int.reduceToNat, List.getElem?_cons_zero, List.getElem?_cons_succ, look_upd] <;> with_reducible rfl))
      repeat (first
        | (apply axJ; (focus ((with_reducible constructor) <;> rfl)))
        | (apply awT mixedOK hΓ (by kernel_rfl); (simp (disch := omega) only [go_sem, ↓reduceIte, dk, ↓lk, ↓ty_build31, s2, s3, s4, s6, s8, q1, q5, q7, q9, q10, q11, e4] <;> with_reducible rfl))
        | ((first | apply awR hΓ | apply awG | apply awH mixedOK hΓ rfl (by kernel_rfl) | apply ovE rfl); (simp (disch := omega) only [go_sem, ↓reduceIte, dk, ↓lk, ↓ty_build31, s2, s3, s4, s6, s8, q1, q5, q7, q9, q10, q11, e4] <;> with_reducible rfl); exact trivial)
        | rfl)
      try rfl
    cases c3
    rotate_left
    · repeat (first
      | (apply axJ; (focus ((with_reducible constructor) <;> rfl)))
      | (apply awT mixedOK hΓ (by kernel_rfl); (simp (disch := omega) only [go_sem, ↓reduceIte, dk, ↓lk, ↓ty_build31, s2, s3, s4, s6, s8, q1, q5, q7, q9, q10, q11, h0] <;> with_reducible rfl))
      | ((first | apply awR hΓ | apply awG | apply awH mixedOK hΓ rfl (by kernel_rfl) | apply ovE rfl); (simp (disch := omega) only [go_sem, ↓reduceIte, dk, ↓lk, ↓ty_build31, s2, s3, s4, s6, s8, q1, q5, q7, q9, q10, q11, h0] <;> with_reducible rfl); exact trivial)
      | rfl)
      rw [h0]
      rfl
    cases c4
    rotate_left
    · repeat (first
      | (apply axJ; (focus ((with_reducible constructor) <;> rfl)))
      | (apply awT mixedOK hΓ (by kernel_rfl); (simp (disch := omega) only [go_sem, ↓reduceIte, dk, ↓lk, ↓ty_build31, s2, s3, s4, s6, s8, q1, q5, q7, q9, q10, q11, h0] <;> with_reducible rfl))
      | ((first | apply awR hΓ | apply awG | apply awH mixedOK hΓ rfl (by kernel_rfl) | apply ovE rfl); (simp (disch := omega) only [go_sem, ↓reduceIte, dk, ↓lk, ↓ty_build31, s2, s3, s4, s6, s8, q1, q5, q7, q9, q10, q11, h0] <;> with_reducible rfl); exact trivial)
      | rfl)
      rw [h0]
      rfl
    cases c5
    rotate_left
    · obtain ⟨x0, x1, w, v, r, rfl, hx⟩ := b5 rfl
      have hy : x0 = g0 := hy
      subst hy
      simp only [List.map_cons, List.map_nil, eGp_eq, hx] at hl ⊢
      repeat (first
        | (apply axJ; (focus ((with_reducible constructor) <;> rfl)))
        | (apply awT mixedOK hΓ (by kernel_rfl); (simp (disch := omega) only [go_sem, ↓reduceIte, dk, ↓lk, ↓ty_build31, s2, s3, s4, s6, s8, q1, q5, q7, q9, q10, q11, hx] <;> with_reducible rfl))
        | ((first | apply awR hΓ | apply awG | apply awH mixedOK hΓ rfl (by kernel_rfl) | apply ovE rfl); (simp (disch := omega) only [go_sem, ↓reduceIte, dk, ↓lk, ↓ty_build31, s2, s3, s4, s6, s8, q1, q5, q7, q9, q10, q11, hx] <;> with_reducible rfl); exact trivial)
        | rfl)
      (apply awp_lane3 (nst := false) (nst' := false) [false, false, false, false, false, false, false, true, false, true] mixedOK hΓ (n1 := 10) (by kernel_rfl) (by kernel_rfl); (focus (dsimp only [List.take_succ_cons, List.take_zero, Array.toList]; (repeat (first | (apply lane3_loud; (focus rfl); (focus rfl); (simp (disch := omega) only [go_sem, ↓reduceIte, dk, ↓lk, ↓ty_build31, s2, s3, s4, s6, s8, q1, q5, q7, q9, q10, q11, hx, Int.reduceToNat, List.getElem?_cons_zero, List.getElem?_cons_succ, look_upd] <;> with_reducible rfl); (focus (first | (simp (disch := omega) only [go_sem, ↓reduceIte, dk, ↓lk, ↓ty_build31, s2, s3, s4, s6, s8, q1, q5, q7, q9, q10, q11, hx, Int.reduceToNat, List.getElem?_cons_zero, List.getElem?_cons_succ, look_upd]; done) | (simp (disch := omega) only [go_sem, ↓reduceIte, dk, ↓lk, ↓ty_build31, s2, s3, s4, s6, s8, q1, q5, q7, q9, q10, q11, hx, Int.reduceToNat, List.getElem?_cons_zero, List.getElem?_cons_succ, look_upd]; omega)))) | (apply lane3_quiet; (simp (disch := omega) only [go_sem, ↓reduceIte, dk, ↓lk, ↓ty_build31, s2, s3, s4, s6, s8, q1, q5, q7, q9, q10, q11, hx, Int.reduceToNat, List.getElem?_cons_zero, List.getElem?_cons_succ, look_upd] <;> with_reducible rfl)))); exact lane3_nil)); (focus ((repeat' (first | exact True.intro | refine And.intro ?_ ?_)); all_goals (first | (left; decide) | (left; rfl) | (right; simp (disch := omega) only [go_sem, ↓reduceIte, dk, ↓lk, ↓ty_build31, s2, s3, s4, s6, s8, q1, q5, q7, q9, q10, q11, hx, Int.reduceToNat, List.getElem?_cons_zero, List.getElem?_cons_succ, look_upd]; try with_reducible rfl)))); (simp (disch := omega) only [go_sem, ↓reduceIte, dk, ↓lk, ↓ty_build31, s2, s3, s4, s6, s8, q1, q5, q7, q9, q10, q11, hx, Int.reduceToNat, List.getElem?_cons_zero, List.getElem?_cons_succ, look_upd] <;> with_reducible rfl))
      repeat (first
        | (apply axJ; (focus ((with_reducible constructor) <;> rfl)))
        | (apply awT mixedOK hΓ (by kernel_rfl); (simp (disch := omega) only [go_sem, ↓reduceIte, dk, ↓lk, ↓ty_build31, s2, s3, s4, s6, s8, q1, q5, q7, q9, q10, q11, hx] <;> with_reducible rfl))
        | ((first | apply awR hΓ | apply awG | apply awH mixedOK hΓ rfl (by kernel_rfl) | apply ovE rfl); (simp (disch := omega) only [go_sem, ↓reduceIte, dk, ↓lk, ↓ty_build31, s2, s3, s4, s6, s8, q1, q5, q7, q9, q10, q11, hx] <;> with_reducible rfl); exact trivial)
        | rfl)
      simp only [gAt, List.getD_cons_zero, List.getD_cons_succ, hx]
      rw [show r.length + 1 + 1 - 1 = (D.str v :: List.map D.str r).length by simp, List.take_length]
      rfl
    cases c6
    rotate_left
    · obtain ⟨x0, x1, x2, w, v, r, rfl, hx⟩ := b6 rfl
      have hy : x0 = g0 := hy
      subst hy
      simp only [List.map_cons, List.map_nil, eGp_eq, hx] at hl ⊢
      repeat (first
        | (apply axJ; (focus ((with_reducible constructor) <;> rfl)))
        | (apply awT mixedOK hΓ (by kernel_rfl); (simp (disch := omega) only [go_sem, ↓reduceIte, dk, ↓lk, ↓ty_build31, s2, s3, s4, s6, s8, q1, q5, q7, q9, q10, q11, hx] <;> with_reducible rfl))
        | ((first | apply awR hΓ | apply awG | apply awH mixedOK hΓ rfl (by kernel_rfl) | apply ovE rfl); (simp (disch := omega) only [go_sem, ↓reduceIte, dk, ↓lk, ↓ty_build31, s2, s3, s4, s6, s8, q1, q5, q7, q9, q10, q11, hx] <;> with_reducible rfl); exact trivial)
        | rfl)
      (apply awp_lane3 (nst := false) (nst' := false) [false, false, false, false, false, false, false, false, false, false, false, true, false, true, false, true] mixedOK hΓ (n1 := 16) (by kernel_rfl) (by kernel_rfl); (focus (dsimp only [List.take_succ_cons, List.take_zero, Array.toList]; (repeat (first | (apply lane3_loud; (focus rfl); (focus rfl); (simp (disch := omega) only [go_sem, ↓reduceIte, dk, ↓lk, ↓ty_build31, s2, s3, s4, s6, s8, q1, q5, q7, q9, q10, q11, hx, Int.reduceToNat, List.getElem?_cons_zero, List.getElem?_cons_succ, look_upd] <;> with_reducible rfl); (focus (first | (simp (disch := omega) only [go_sem, ↓reduceIte, dk, ↓lk, ↓ty_build31, s2, s3, s4, s6, s8, q1, q5, q7, q9, q10, q11, hx, Int.reduceToNat, List.getElem?_cons_zero, List.getElem?_cons_succ, look_upd]; done) | (simp (disch := omega) only [go_sem, ↓reduceIte, dk, ↓lk, ↓ty_build31, s2, s3, s4, s6, s8, q1, q5, q7, q9, q10, q11, hx, Int.reduceToNat, List.getElem?_cons_zero, List.getElem?_cons_succ, look_upd]; omega)))) | (apply lane3_quiet; (simp (disch := omega) only [go_sem, ↓reduceIte, dk, ↓lk, ↓ty_build31, s2, s3, s4, s6, s8, q1, q5, q7, q9, q10, q11, hx, Int.reduceToNat, List.getElem?_cons_zero, List.getElem?_cons_succ, look_upd] <;> with_reducible rfl)))); exact lane3_nil)); (focus ((repeat' (first | exact True.intro | refine And.intro ?_ ?_)); all_goals (first | (left; decide) | (left; rfl) | (right; simp (disch := omega) only [go_sem, ↓reduceIte, dk, ↓lk, ↓ty_build31, s2, s3, s4, s6, s8, q1, q5, q7, q9, q10, q11, hx, Int.reduceToNat, List.getElem?_cons_zero, List.getElem?_cons_succ, look_upd]; try with_reducible rfl)))); (simp (disch := omega) only [go_sem, ↓reduceIte, dk, ↓lk, ↓ty_build31, s2, s3, s4, s6, s8, q1, q5, q7, q9, q10, q11, hx, Int.reduceToNat, List.getElem?_cons_zero, List.getElem?_cons_succ, look_upd] <;> with_reducible rfl))
      repeat (first
        | (apply axJ; (focus ((with_reducible constructor) <;> rfl)))
        | (apply awT mixedOK hΓ (by kernel_rfl); (simp (disch := omega) only [go_sem, ↓reduceIte, dk, ↓lk, ↓ty_build31, s2, s3, s4, s6, s8, q1, q5, q7, q9, q10, q11, hx] <;> with_reducible rfl))
        | ((first | apply awR hΓ | apply awG | apply awH mixedOK hΓ rfl (by kernel_rfl) | apply ovE rfl); (simp (disch := omega) only [go_sem, ↓reduceIte, dk, ↓lk, ↓ty_build31, s2, s3, s4, s6, s8, q1, q5, q7, q9, q10, q11, hx] <;> with_reducible rfl); exact trivial)
        | rfl)
      simp only [gAt, List.getD_cons_zero, List.getD_cons_succ, hx]
      rw [show r.length + 1 + 1 - 1 = (D.str v :: List.map D.str r).length by simp, List.take_length]
      rfl
    cases c7
    rotate_left
    · obtain ⟨x0, x1, x2, w, v, rfl, hx, hx2⟩ := b7 rfl
      have hy : x0 = g0 := hy
      subst hy
      simp only [List.map_cons, List.map_nil, eGp_eq, hx, hx2] at hl ⊢
      repeat (first
        | (apply axJ; (focus ((with_reducible constructor) <;> rfl)))
        | (apply awT mixedOK hΓ (by kernel_rfl); (simp (disch := omega) only [go_sem, ↓reduceIte, dk, ↓lk, ↓ty_build31, s2, s3, s4, s6, s8, q1, q5, q7, q9, q10, q11, hx, hx2] <;> with_reducible rfl))
        | ((first | apply awR hΓ | apply awG | apply awH mixedOK hΓ rfl (by kernel_rfl) | apply ovE rfl); (simp (disch := omega) only [go_sem, ↓reduceIte, dk, ↓lk, ↓ty_build31, s2, s3, s4, s6, s8, q1, q5, q7, q9, q10, q11, hx, hx2] <;> with_reducible rfl); exact trivial)
        | rfl)
      (apply awp_lane3 (nst := false) (nst' := false) [false, false, false, false, false, false, false, false, false, false, false, false, true] mixedOK hΓ (n1 := 13) (by kernel_rfl) (by kernel_rfl); (focus (dsimp only [List.take_succ_cons, List.take_zero, Array.toList]; (repeat (first | (apply lane3_loud; (focus rfl); (focus rfl); (simp (disch := omega) only [go_sem, ↓reduceIte, dk, ↓lk, ↓ty_build31, s2, s3, s4, s6, s8, q1, q5, q7, q9, q10, q11, hx, hx2, Int.reduceToNat, List.getElem?_cons_zero, List.getElem?_cons_succ, look_upd] <;> with_reducible rfl); (focus (first | (simp (disch := omega) only [go_sem, ↓reduceIte, dk, ↓lk, ↓ty_build31, s2, s3, s4, s6, s8, q1, q5, q7, q9, q10, q11, hx, hx2, Int.reduceToNat, List.getElem?_cons_zero, List.getElem?_cons_succ, look_upd]; done) | (simp (disch := omega) only [go_sem, ↓reduceIte, dk, ↓lk, ↓ty_build31, s2, s3, s4, s6, s8, q1, q5, q7, q9, q10, q11, hx, hx2, Int.reduceToNat, List.getElem?_cons_zero, List.getElem?_cons_succ, look_upd]; omega)))) | (apply lane3_quiet; (simp (disch := omega) only [go_sem, ↓reduceIte, dk, ↓lk, ↓ty_build31, s2, s3, s4, s6, s8, q1, q5, q7, q9, q10, q11, hx, hx2, Int.reduceToNat, List.getElem?_cons_zero, List.getElem?_cons_succ, look_upd] <;> with_reducible rfl)))); exact lane3_nil)); (focus ((repeat' (first | exact True.intro | refine And.intro ?_ ?_)); all_goals (first | (left; decide) | (left; rfl) | (right; simp (disch := omega) only [go_sem, ↓reduceIte, dk, ↓lk, ↓ty_build31, s2, s3, s4, s6, s8, q1, q5, q7, q9, q10, q11, hx, hx2, Int.reduceToNat, List.getElem?_cons_zero, List.getElem?_cons_succ, look_upd]; try with_reducible rfl)))); (simp (disch := omega) only [go_sem, ↓reduceIte, dk, ↓lk, ↓ty_build31, s2, s3, s4, s6, s8, q1, q5, q7, q9, q10, q11, hx, hx2, Int.reduceToNat, List.getElem?_cons_zero, List.getElem?_cons_succ, look_upd] <;> with_reducible rfl))
      repeat (first
        | (apply axJ; (focus ((with_reducible constructor) <;> rfl)))
        | (apply awT mixedOK hΓ (by kernel_rfl); (simp (disch := omega) only [go_sem, ↓reduceIte, dk, ↓lk, ↓ty_build31, s2, s3, s4, s6, s8, q1, q5, q7, q9, q10, q11, hx, hx2] <;> with_reducible rfl))
        | ((first | apply awR hΓ | apply awG | apply awH mixedOK hΓ rfl (by kernel_rfl) | apply ovE rfl); (simp (disch := omega) only [go_sem, ↓reduceIte, dk, ↓lk, ↓ty_build31, s2, s3, s4, s6, s8, q1, q5, q7, q9, q10, q11, hx, hx2] <;> with_reducible rfl); exact trivial)
        | rfl)
      simp only [gAt, List.getD_cons_zero, List.getD_cons_succ, hx, hx2]
      rfl
    cases c8
    rotate_left
    · obtain ⟨x0, x1, x2, x3, w, v, rfl, hx, hx2⟩ := b8 rfl
      have hy : x0 = g0 := hy
      subst hy
      simp only [List.map_cons, List.map_nil, eGp_eq, hx, hx2] at hl ⊢
      repeat (first
        | (apply axJ; (focus ((with_reducible constructor) <;> rfl)))
        | (apply awT mixedOK hΓ (by kernel_rfl); (simp (disch := omega) only [go_sem, ↓reduceIte, dk, ↓lk, ↓ty_build31, s2, s3, s4, s6, s8, q1, q5, q7, q9, q10, q11, hx, hx2] <;> with_reducible rfl))
        | ((first | apply awR hΓ | apply awG | apply awH mixedOK hΓ rfl (by kernel_rfl) | apply ovE rfl); (simp (disch := omega) only [go_sem, ↓reduceIte, dk, ↓lk, ↓ty_build31, s2, s3, s4, s6, s8, q1, q5, q7, q9, q10, q11, hx, hx2] <;> with_reducible rfl); exact trivial)
        | rfl)
      (apply awp_lane3 (nst := false) (nst' := false) [false, false, false, false, false, false, false, false, false, false, false, false, false, false, false, false, true, false, true] mixedOK hΓ (n1 := 19) (by kernel_rfl) (by kernel_rfl); (focus (dsimp only [List.take_succ_cons, List.take_zero, Array.toList]; (repeat (first | (apply lane3_loud; (focus rfl); (focus rfl); (simp (disch := omega) only [go_sem, ↓reduceIte, dk, ↓lk, ↓ty_build31, s2, s3, s4, s6, s8, q1, q5, q7, q9, q10, q11, hx, hx2, Int.reduceToNat, List.getElem?_cons_zero, List.getElem?_cons_succ, look_upd] <;> with_reducible rfl); (focus (first | (simp (disch := omega) only [go_sem, ↓reduceIte, dk, ↓lk, ↓ty_build31, s2, s3, s4, s6, s8, q1, q5, q7, q9, q10, q11, hx, hx2, Int.reduceToNat, List.getElem?_cons_zero, List.getElem?_cons_succ, look_upd]; done) | (simp (disch := omega) only [go_sem, ↓reduceIte, dk, ↓lk, ↓ty_build31, s2, s3, s4, s6, s8, q1, q5, q7, q9, q10, q11, hx, hx2, Int.reduceToNat, List.getElem?_cons_zero, List.getElem?_cons_succ, look_upd]; omega)))) | (apply lane3_quiet; (simp (disch := omega) only [go_sem, ↓reduceIte, dk, ↓lk, ↓ty_build31, s2, s3, s4, s6, s8, q1, q5, q7, q9, q10, q11, hx, hx2, Int.reduceToNat, List.getElem?_cons_zero, List.getElem?_cons_succ, look_upd] <;> with_reducible rfl)))); exact lane3_nil)); (focus ((repeat' (first | exact True.intro | refine And.intro ?_ ?_)); all_goals (first | (left; decide) | (left; rfl) | (right; simp (disch := omega) only [go_sem, ↓reduceIte, dk, ↓lk, ↓ty_build31, s2, s3, s4, s6, s8, q1, q5, q7, q9, q10, q11, hx, hx2, Int.reduceToNat, List.getElem?_cons_zero, List.getElem?_cons_succ, look_upd]; try with_reducible rfl)))); (simp (disch := omega) only [go_sem, ↓reduceIte, dk, ↓lk, ↓ty_build31, s2, s3, s4, s6, s8, q1, q5, q7, q9, q10, q11, hx, hx2, Int.reduceToNat, List.getElem?_cons_zero, List.getElem?_cons_succ, look_upd] <;> with_reducible rfl))
      repeat (first
        | (apply axJ; (focus ((with_reducible constructor) <;> rfl)))
        | (apply awT mixedOK hΓ (by kernel_rfl); (simp (disch := omega) only [go_sem, ↓reduceIte, dk, ↓lk, ↓ty_build31, s2, s3, s4, s6, s8, q1, q5, q7, q9, q10, q11, hx, hx2] <;> with_reducible rfl))
        | ((first | apply awR hΓ | apply awG | apply awH mixedOK hΓ rfl (by kernel_rfl) | apply ovE rfl); (simp (disch := omega) only [go_sem, ↓reduceIte, dk, ↓lk, ↓ty_build31, s2, s3, s4, s6, s8, q1, q5, q7, q9, q10, q11, hx, hx2] <;> with_reducible rfl); exact trivial)
        | rfl)
      simp only [gAt, List.getD_cons_zero, List.getD_cons_succ, hx, hx2]
      rfl
    cases c9
    rotate_left
    · obtain ⟨x0, x1, x2, w, v, rfl, hx, hx2⟩ := b9 rfl
      have hy : x0 = g0 := hy
      subst hy
      simp only [List.map_cons, List.map_nil, eGp_eq, hx, hx2] at hl ⊢
      repeat (first
        | (apply axJ; (focus ((with_reducible constructor) <;> rfl)))
        | (apply awT mixedOK hΓ (by kernel_rfl); (simp (disch := omega) only [go_sem, ↓reduceIte, dk, ↓lk, ↓ty_build31, s2, s3, s4, s6, s8, q1, q5, q7, q9, q10, q11, hx, hx2] <;> with_reducible rfl))
        | ((first | apply awR hΓ | apply awG | apply awH mixedOK hΓ rfl (by kernel_rfl) | apply ovE rfl); (simp (disch := omega) only [go_sem, ↓reduceIte, dk, ↓lk, ↓ty_build31, s2, s3, s4, s6, s8, q1, q5, q7, q9, q10, q11, hx, hx2] <;> with_reducible rfl); exact trivial)
        | rfl)
      (apply awp_lane3 (nst := false) (nst' := false) [false, false, false, false, false, false, false, false, false, false, false, false, true] mixedOK hΓ (n1 := 13) (by kernel_rfl) (by kernel_rfl); (focus (dsimp only [List.take_succ_cons, List.take_zero, Array.toList]; (repeat (first | (apply lane3_loud; (focus rfl); (focus rfl); (simp (disch := omega) only [go_sem, ↓reduceIte, dk, ↓lk, ↓ty_build31, s2, s3, s4, s6, s8, q1, q5, q7, q9, q10, q11, hx, hx2, Int.reduceToNat, List.getElem?_cons_zero, List.getElem?_cons_succ, look_upd] <;> with_reducible rfl); (focus (first | (simp (disch := omega) only [go_sem, ↓reduceIte, dk, ↓lk, ↓ty_build31, s2, s3, s4, s6, s8, q1, q5, q7, q9, q10, q11, hx, hx2, Int.reduceToNat, List.getElem?_cons_zero, List.getElem?_cons_succ, look_upd]; done) | (simp (disch := omega) only [go_sem, ↓reduceIte, dk, ↓lk, ↓ty_build31, s2, s3, s4, s6, s8, q1, q5, q7, q9, q10, q11, hx, hx2, Int.reduceToNat, List.getElem?_cons_zero, List.getElem?_cons_succ, look_upd]; omega)))) | (apply lane3_quiet; (simp (disch := omega) only [go_sem, ↓reduceIte, dk, ↓lk, ↓ty_build31, s2, s3, s4, s6, s8, q1, q5, q7, q9, q10, q11, hx, hx2, Int.reduceToNat, List.getElem?_cons_zero, List.getElem?_cons_succ, look_upd] <;> with_reducible rfl)))); exact lane3_nil)); (focus ((repeat' (first | exact True.intro | refine And.intro ?_ ?_)); all_goals (first | (left; decide) | (left; rfl) | (right; simp (disch := omega) only [go_sem, ↓reduceIte, dk, ↓lk, ↓ty_build31, s2, s3, s4, s6, s8, q1, q5, q7, q9, q10, q11, hx, hx2, Int.reduceToNat, List.getElem?_cons_zero, List.getElem?_cons_succ, look_upd]; try with_reducible rfl)))); (simp (disch := omega) only [go_sem, ↓reduceIte, dk, ↓lk, ↓ty_build31, s2, s3, s4, s6, s8, q1, q5, q7, q9, q10, q11, hx, hx2, Int.reduceToNat, List.getElem?_cons_zero, List.getElem?_cons_succ, look_upd] <;> with_reducible rfl))
      repeat (first
        | (apply axJ; (focus ((with_reducible constructor) <;> rfl)))
        | (apply awT mixedOK hΓ (by kernel_rfl); (simp (disch := omega) only [go_sem, ↓reduceIte, dk, ↓lk, ↓ty_build31, s2, s3, s4, s6, s8, q1, q5, q7, q9, q10, q11, hx, hx2] <;> with_reducible rfl))
        | ((first | apply awR hΓ | apply awG | apply awH mixedOK hΓ rfl (by kernel_rfl) | apply ovE rfl); (simp (disch := omega) only [go_sem, ↓reduceIte, dk, ↓lk, ↓ty_build31, s2, s3, s4, s6, s8, q1, q5, q7, q9, q10, q11, hx, hx2] <;> with_reducible rfl); exact trivial)
        | rfl)
      simp only [gAt, List.getD_cons_zero, List.getD_cons_succ, hx, hx2]
      rfl
    cases c10
    rotate_left
    · repeat (first
      | (apply axJ; (focus ((with_reducible constructor) <;> rfl)))
      | (apply awT mixedOK hΓ (by kernel_rfl); (simp (disch := omega) only [go_sem, ↓reduceIte, dk, ↓lk, ↓ty_build31, s2, s3, s4, s6, s8, q1, q5, q7, q9, q10, q11, h0] <;> with_reducible rfl))
      | ((first | apply awR hΓ | apply awG | apply awH mixedOK hΓ rfl (by kernel_rfl) | apply ovE rfl); (simp (disch := omega) only [go_sem, ↓reduceIte, dk, ↓lk, ↓ty_build31, s2, s3, s4, s6, s8, q1, q5, q7, q9, q10, q11, h0] <;> with_reducible rfl); exact trivial)
      | rfl)
      rw [h0]
      rfl
    cases c11
    rotate_left
    · repeat (first
      | (apply axJ; (focus ((with_reducible constructor) <;> rfl)))
      | (apply awT mixedOK hΓ (by kernel_rfl); (simp (disch := omega) only [go_sem, ↓reduceIte, dk, ↓lk, ↓ty_build31, s2, s3, s4, s6, s8, q1, q5, q7, q9, q10, q11, h0] <;> with_reducible rfl))
      | ((first | apply awR hΓ | apply awG | apply awH mixedOK hΓ rfl (by kernel_rfl) | apply ovE rfl); (simp (disch := omega) only [go_sem, ↓reduceIte, dk, ↓lk, ↓ty_build31, s2, s3, s4, s6, s8, q1, q5, q7, q9, q10, q11, h0] <;> with_reducible rfl); exact trivial)
      | rfl)
      rw [h0]
      rfl
    · repeat (first
      | (apply axJ; (focus ((with_reducible constructor) <;> rfl)))
      | (apply awT mixedOK hΓ (by kernel_rfl); (simp (disch := omega) only [go_sem, ↓reduceIte, dk, ↓lk, ↓ty_build31, s2, s3, s4, s6, s8, q1, q5, q7, q9, q10, q11, h0] <;> with_reducible rfl))
      | ((first | apply awR hΓ | apply awG | apply awH mixedOK hΓ rfl (by kernel_rfl) | apply ovE rfl); (simp (disch := omega) only [go_sem, ↓reduceIte, dk, ↓lk, ↓ty_build31, s2, s3, s4, s6, s8, q1, q5, q7, q9, q10, q11, h0] <;> with_reducible rfl); exact trivial)
      | rfl)
      try rfl
end Go.Ab
