/-
  One text of the proof (own work): contracts of functions of the program, by the abstract machine.
-/
import Derived.Test.YtapnigckcnknoaaGreatDoorRows
import Derived.Test.YtapnigckcnknoaaGreatDoorX12
import Derived.Test.YtapnigckcnknoaaGreatDoorX25
import Derived.Test.YtapnigckcnknoaaGreatDoorX20
import Derived.Test.YtapnigckcnknoaaGreatDoorX19
import Derived.Test.YtapnigckcnknoaaGreatDoorX18
import Derived.Test.YtapnigckcnknoaaGreatDoorX11
import Derived.Test.YtapnigckcnknoaaGreatDoorX22
set_option linter.unusedVariables false
set_option linter.unusedSimpArgs false
namespace Go.Ab
open Go Go.RowKit Go.Proofs
set_option maxRecDepth 100000
set_option maxHeartbeats 16000000
noncomputable def g_eqL07 : List D → Option D := encSpec (fun x : (List Sp) × (List Sp) => [.list (x.1.map eSp), .list (x.2.map eSp)]) (fun x : (List Sp) × (List Sp) => x.1.length ≤ 1099511627776 ∧ x.2.length ≤ 1099511627776) (fun x : (List Sp) × (List Sp) => .bool (decide (x.1 = x.2)))
theorem g_eqL07_eq {a : List Sp} {b : List Sp} (hd : a.length ≤ 1099511627776 ∧ b.length ≤ 1099511627776) : g_eqL07 [.list (a.map eSp), .list (b.map eSp)] = some (.bool (decide (a = b))) := encSpec_eq (x := (a, b)) hd fun y hy => by
    obtain ⟨y0, y1⟩ := y; simp only [List.cons.injEq, and_true, true_and, D.str.injEq, D.int.injEq, D.list.injEq, D.bool.injEq, D.agg.injEq, D.clo.injEq, Int.natCast_inj, inj_ie, D.ref.injEq, eU_e, eWd_e, eWd_ie, eWr_e, eWr_ie, eTk_ie, eTk_e, eFl_ie, eSp_ie, eSp_e, eMc_e, eMc_ie, hid_e] at hy
    (try obtain ⟨rfl, rfl⟩ := hy)
    (try subst_vars)
    rfl
theorem f_eqL07_ok : PureOK Tryz.prog 31 true g_eqL07 := by
  have hΓ := Γ0_ok
  refine pure_enc (n := 26) (rs := [.tmp 4]) Tryz.func31 (by kernel_rfl) rfl (by kernel_rfl) (by kernel_rfl) ?_
  rintro ⟨a, b⟩ hd
  (try dsimp only at hd ⊢)
  refine ⟨fun _ => by (repeat (first | exact .int _ _ | exact .bool _ | exact .str _ | (refine .tup _ (fun d hd => ?_); simp only [List.mem_cons, List.not_mem_nil, or_false] at hd; rcases hd with rfl | hd))), fun k hz0 => ?_⟩
  obtain ⟨d1, d2⟩ := hd
  rw [start_frame (by simp)]; simp only [enumV, go_sem, emptyH]
  by_cases hl : a.length = b.length
  case neg =>
    have hab : decide (a = b) = false := decide_eq_false fun e => hl (by rw [e])
    rw [hab]
    have h1 : (((a.length : Nat) : Int) != (b.length : Int)) = true := by
      simp only [bne_iff_ne, ne_eq]
      omega
    repeat (first
      | (apply axJ; (focus ((with_reducible constructor) <;> rfl)))
      | (apply awT mixedOK hΓ (by kernel_rfl); (simp (disch := omega) only [go_sem, ↓reduceIte, dk, ↓lk, Int.reduceBEq, Int.reduceBNe, Bool.true_bne, Bool.false_bne, Bool.not_true, Bool.not_false, h1] <;> with_reducible rfl))
      | ((first | apply awR hΓ | apply awG | apply awH mixedOK hΓ rfl (by kernel_rfl) | apply ovE rfl); (simp (disch := omega) only [go_sem, ↓reduceIte, dk, ↓lk, Int.reduceBEq, Int.reduceBNe, Bool.true_bne, Bool.false_bne, Bool.not_true, Bool.not_false, h1] <;> with_reducible rfl); exact trivial)
      | rfl)
    try rfl
  have h1 : (((a.length : Nat) : Int) != (b.length : Int)) = false := by simp [hl]
  repeat (first
    | (apply axJ; (focus ((with_reducible constructor) <;> rfl)))
    | (apply awT mixedOK hΓ (by kernel_rfl); (simp (disch := omega) only [go_sem, ↓reduceIte, dk, ↓lk, Int.reduceBEq, Int.reduceBNe, Bool.true_bne, Bool.false_bne, Bool.not_true, Bool.not_false, h1] <;> with_reducible rfl))
    | ((first | apply awR hΓ | apply awG | apply awH mixedOK hΓ rfl (by kernel_rfl) | apply ovE rfl); (simp (disch := omega) only [go_sem, ↓reduceIte, dk, ↓lk, Int.reduceBEq, Int.reduceBNe, Bool.true_bne, Bool.false_bne, Bool.not_true, Bool.not_false, h1] <;> with_reducible rfl); exact trivial)
    | rfl)
  refine awp_loop_at (X := Nat) (fun i => (frame 26 [(0, .data (.list (a.map eSp))), (1, .data (.list (b.map eSp))), (12, .data (i64 a.length)), (13, .data (i64 i))])) (fun _ => []) 12
    (fun i => i ≤ a.length ∧ a.take i = b.take i) (fun i => a.length - i) 0 ⟨Nat.zero_le _, rfl⟩ (Weak.w) ?_
  rintro i ⟨hi, hpre⟩
  (try dsimp only at hi hpre ⊢)
  by_cases hi2 : i < a.length
  · have hi3 : i < b.length := by omega
    have hdf := list_diff hi2 hi3
    have hnx : a[i] = b[i] → a.take (i + 1) = b.take (i + 1) := fun h => by
      rw [List.take_add_one, List.take_add_one, hpre, List.getElem?_eq_getElem hi2, List.getElem?_eq_getElem hi3, h]
    generalize hy : a[i] = y at *
    generalize hz : b[i] = z at *
    obtain ⟨y1, y2, y3⟩ := y
    obtain ⟨z1, z2, z3⟩ := z
    by_cases he : ((y1, y2, y3) : Sp) = (z1, z2, z3)
    · have hq : ((y1 == z1) && ((y2 == z2) && (y3 == z3))) = true := by
        simp only [Prod.mk.injEq] at he
        simp [he.1, he.2.1, he.2.2]
      repeat (first
        | (apply axJ; (focus ((with_reducible constructor) <;> rfl)))
        | (apply awT mixedOK hΓ (by kernel_rfl); (simp (disch := omega) only [go_sem, ↓reduceIte, dk, ↓lk, Int.reduceBEq, Int.reduceBNe, Bool.true_bne, Bool.false_bne, Bool.not_true, Bool.not_false, hy, hz, eq_sp, hq] <;> with_reducible rfl))
        | ((first | apply awR hΓ | apply awG | apply awH mixedOK hΓ rfl (by kernel_rfl) | apply ovE rfl); (simp (disch := omega) only [go_sem, ↓reduceIte, dk, ↓lk, Int.reduceBEq, Int.reduceBNe, Bool.true_bne, Bool.false_bne, Bool.not_true, Bool.not_false, hy, hz, eq_sp, hq] <;> with_reducible rfl); exact trivial)
        | rfl)
      exact ⟨i + 1, ⟨by omega, hnx he⟩, by omega, Weak.w⟩
    · have hq : ((y1 == z1) && ((y2 == z2) && (y3 == z3))) = false := by
        rw [Bool.eq_false_iff]
        intro h
        simp only [Bool.and_eq_true, beq_iff_eq] at h
        exact he (by rw [h.1, h.2.1, h.2.2])
      have hab : decide (a = b) = false := decide_eq_false (hdf he)
      rw [hab]
      repeat (first
        | (apply axJ; (focus ((with_reducible constructor) <;> rfl)))
        | (apply awT mixedOK hΓ (by kernel_rfl); (simp (disch := omega) only [go_sem, ↓reduceIte, dk, ↓lk, Int.reduceBEq, Int.reduceBNe, Bool.true_bne, Bool.false_bne, Bool.not_true, Bool.not_false, hy, hz, eq_sp, hq] <;> with_reducible rfl))
        | ((first | apply awR hΓ | apply awG | apply awH mixedOK hΓ rfl (by kernel_rfl) | apply ovE rfl); (simp (disch := omega) only [go_sem, ↓reduceIte, dk, ↓lk, Int.reduceBEq, Int.reduceBNe, Bool.true_bne, Bool.false_bne, Bool.not_true, Bool.not_false, hy, hz, eq_sp, hq] <;> with_reducible rfl); exact trivial)
        | rfl)
      try rfl
  have hi3 : i = a.length := by omega
  subst hi3
  rw [List.take_length, List.take_of_length_le (by omega)] at hpre
  rw [decide_eq_true hpre]
  repeat (first
    | (apply axJ; (focus ((with_reducible constructor) <;> rfl)))
    | (apply awT mixedOK hΓ (by kernel_rfl); (simp (disch := omega) only [go_sem, ↓reduceIte, dk, ↓lk, Int.reduceBEq, Int.reduceBNe, Bool.true_bne, Bool.false_bne, Bool.not_true, Bool.not_false] <;> with_reducible rfl))
    | ((first | apply awR hΓ | apply awG | apply awH mixedOK hΓ rfl (by kernel_rfl) | apply ovE rfl); (simp (disch := omega) only [go_sem, ↓reduceIte, dk, ↓lk, Int.reduceBEq, Int.reduceBNe, Bool.true_bne, Bool.false_bne, Bool.not_true, Bool.not_false] <;> with_reducible rfl); exact trivial)
    | rfl)
  try rfl
noncomputable def g_few3b : List D → Option D := encSpec (fun x : (List Fl) × Int × Int => [.list (x.1.map eFl), i64 x.2.1, i64 x.2.2]) (fun x : (List Fl) × Int × Int => x.1.length ≤ 1099511627776 ∧ (∀ f ∈ x.1, f.2.length ≤ 1099511627776) ∧ 0 ≤ x.2.2 ∧ x.2.2 ≤ 1099511627776) (fun x : (List Fl) × Int × Int => .bool (few3 x.1 x.2.1 x.2.2))
theorem g_few3b_eq {l : List Fl} {m : Int} {z : Int} (hd : l.length ≤ 1099511627776 ∧ (∀ f ∈ l, f.2.length ≤ 1099511627776) ∧ 0 ≤ z ∧ z ≤ 1099511627776) : g_few3b [.list (l.map eFl), .int .i64 m, .int .i64 z] = some (.bool (few3 l m z)) := encSpec_eq (x := (l, m, z)) hd fun y hy => by
    obtain ⟨y0, y1, y2⟩ := y; simp only [List.cons.injEq, and_true, true_and, D.str.injEq, D.int.injEq, D.list.injEq, D.bool.injEq, D.agg.injEq, D.clo.injEq, Int.natCast_inj, inj_ie, D.ref.injEq, eU_e, eWd_e, eWd_ie, eWr_e, eWr_ie, eTk_ie, eTk_e, eFl_ie, eSp_ie, eSp_e, eMc_e, eMc_ie, hid_e] at hy
    (try obtain ⟨rfl, rfl, rfl⟩ := hy)
    (try subst_vars)
    rfl
theorem f_few3b_ok : PureOK Tryz.prog 10 true g_few3b := by
  have hΓ := Γ0_ok
  refine pure_enc (n := 35) (rs := [.tmp 6]) Tryz.func10 (by kernel_rfl) rfl (by kernel_rfl) (by kernel_rfl) ?_
  rintro ⟨l, m, z⟩ hd
  (try dsimp only at hd ⊢)
  refine ⟨fun _ => by (repeat (first | exact .int _ _ | exact .bool _ | exact .str _ | (refine .tup _ (fun d hd => ?_); simp only [List.mem_cons, List.not_mem_nil, or_false] at hd; rcases hd with rfl | hd))), fun k hz0 => ?_⟩
  obtain ⟨d1, d2, d3, d4⟩ := hd
  unfold few3
  rw [start_frame (by simp)]; simp only [enumV, go_sem, emptyH]
  cases h1 : decide ((l.length : Int) > m)
  case true =>
    simp only [if_true]
    repeat (first
      | (apply axJ; (focus ((with_reducible constructor) <;> rfl)))
      | (apply awT mixedOK hΓ (by kernel_rfl); (simp (disch := omega) only [go_sem, ↓reduceIte, dk, ↓lk, Int.reduceBEq, Int.reduceBNe, Bool.true_bne, Bool.false_bne, Bool.not_true, Bool.not_false, h1] <;> with_reducible rfl))
      | ((first | apply awR hΓ | apply awG | apply awH mixedOK hΓ rfl (by kernel_rfl) | apply ovE rfl); (simp (disch := omega) only [go_sem, ↓reduceIte, dk, ↓lk, Int.reduceBEq, Int.reduceBNe, Bool.true_bne, Bool.false_bne, Bool.not_true, Bool.not_false, h1] <;> with_reducible rfl); exact trivial)
      | rfl)
    try rfl
  simp only [Bool.false_eq_true, if_false]
  repeat (first
    | (apply axJ; (focus ((with_reducible constructor) <;> rfl)))
    | (apply awT mixedOK hΓ (by kernel_rfl); (simp (disch := omega) only [go_sem, ↓reduceIte, dk, ↓lk, Int.reduceBEq, Int.reduceBNe, Bool.true_bne, Bool.false_bne, Bool.not_true, Bool.not_false, h1] <;> with_reducible rfl))
    | ((first | apply awR hΓ | apply awG | apply awH mixedOK hΓ rfl (by kernel_rfl) | apply ovE rfl); (simp (disch := omega) only [go_sem, ↓reduceIte, dk, ↓lk, Int.reduceBEq, Int.reduceBNe, Bool.true_bne, Bool.false_bne, Bool.not_true, Bool.not_false, h1] <;> with_reducible rfl); exact trivial)
    | rfl)
  refine awp_loop_at (X := Nat × Int) (fun y => (frame 35 [(2, .data (i64 z)), (7, .data (i64 y.2)), (14, .data (.list (l.map eFl))), (15, .data (i64 l.length)), (16, .data (i64 y.1))])) (fun _ => []) 13
    (fun y => y.1 ≤ l.length ∧ few3Go z 0 l = few3Go z y.2 (l.drop y.1) ∧ 0 ≤ y.2 ∧ y.2 ≤ z) (fun y => l.length - y.1) (0, 0) ⟨Nat.zero_le _, rfl, by decide, d3⟩ (Weak.w) ?_
  rintro ⟨i, n⟩ ⟨hi, hpre, hn1, hn2⟩
  (try dsimp only at hi hpre hn1 hn2 ⊢)
  rw [hpre]
  clear hpre
  by_cases hi2 : i < l.length
  · have hdr := List.drop_eq_getElem_cons hi2
    have hdy := d2 l[i] (List.getElem_mem hi2)
    rw [hdr]
    generalize hy : l[i] = y at *
    obtain ⟨y1, y2⟩ := y
    dsimp only at hdy
    rw [few3Go]
    cases hq : decide ((y1.length : Int) > 300)
    · cases hq2 : decide (n + (y2.length : Int) > z)
      · repeat (first
        | (apply axJ; (focus ((with_reducible constructor) <;> rfl)))
        | (apply awT mixedOK hΓ (by kernel_rfl); (simp (disch := omega) only [go_sem, ↓reduceIte, dk, ↓lk, Int.reduceBEq, Int.reduceBNe, Bool.true_bne, Bool.false_bne, Bool.not_true, Bool.not_false, hy, hq, hq2] <;> with_reducible rfl))
        | ((first | apply awR hΓ | apply awG | apply awH mixedOK hΓ rfl (by kernel_rfl) | apply ovE rfl); (simp (disch := omega) only [go_sem, ↓reduceIte, dk, ↓lk, Int.reduceBEq, Int.reduceBNe, Bool.true_bne, Bool.false_bne, Bool.not_true, Bool.not_false, hy, hq, hq2] <;> with_reducible rfl); exact trivial)
        | rfl)
        have hz2 := of_decide_eq_false hq2
        exact ⟨(i + 1, n + (y2.length : Int)), ⟨by dsimp only; omega, rfl, by dsimp only; omega, by dsimp only; omega⟩, by dsimp only; omega, Weak.w⟩
      · repeat (first
        | (apply axJ; (focus ((with_reducible constructor) <;> rfl)))
        | (apply awT mixedOK hΓ (by kernel_rfl); (simp (disch := omega) only [go_sem, ↓reduceIte, dk, ↓lk, Int.reduceBEq, Int.reduceBNe, Bool.true_bne, Bool.false_bne, Bool.not_true, Bool.not_false, hy, hq, hq2] <;> with_reducible rfl))
        | ((first | apply awR hΓ | apply awG | apply awH mixedOK hΓ rfl (by kernel_rfl) | apply ovE rfl); (simp (disch := omega) only [go_sem, ↓reduceIte, dk, ↓lk, Int.reduceBEq, Int.reduceBNe, Bool.true_bne, Bool.false_bne, Bool.not_true, Bool.not_false, hy, hq, hq2] <;> with_reducible rfl); exact trivial)
        | rfl)
        try rfl
    · repeat (first
      | (apply axJ; (focus ((with_reducible constructor) <;> rfl)))
      | (apply awT mixedOK hΓ (by kernel_rfl); (simp (disch := omega) only [go_sem, ↓reduceIte, dk, ↓lk, Int.reduceBEq, Int.reduceBNe, Bool.true_bne, Bool.false_bne, Bool.not_true, Bool.not_false, hy, hq] <;> with_reducible rfl))
      | ((first | apply awR hΓ | apply awG | apply awH mixedOK hΓ rfl (by kernel_rfl) | apply ovE rfl); (simp (disch := omega) only [go_sem, ↓reduceIte, dk, ↓lk, Int.reduceBEq, Int.reduceBNe, Bool.true_bne, Bool.false_bne, Bool.not_true, Bool.not_false, hy, hq] <;> with_reducible rfl); exact trivial)
      | rfl)
      try rfl
  have hi3 : i = l.length := by omega
  subst hi3
  rw [List.drop_length, few3Go]
  repeat (first
    | (apply axJ; (focus ((with_reducible constructor) <;> rfl)))
    | (apply awT mixedOK hΓ (by kernel_rfl); (simp (disch := omega) only [go_sem, ↓reduceIte, dk, ↓lk, Int.reduceBEq, Int.reduceBNe, Bool.true_bne, Bool.false_bne, Bool.not_true, Bool.not_false] <;> with_reducible rfl))
    | ((first | apply awR hΓ | apply awG | apply awH mixedOK hΓ rfl (by kernel_rfl) | apply ovE rfl); (simp (disch := omega) only [go_sem, ↓reduceIte, dk, ↓lk, Int.reduceBEq, Int.reduceBNe, Bool.true_bne, Bool.false_bne, Bool.not_true, Bool.not_false] <;> with_reducible rfl); exact trivial)
    | rfl)
  try rfl
noncomputable def g_tokL : List D → Option D := encSpec (fun x : Bs => [.str x]) (fun x : Bs => x.length ≤ 1099511627776) (fun x : Bs => .list ((toksB x).1.map eTk))
theorem g_tokL_eq {s : Bs} (hd : s.length ≤ 1099511627776) : g_tokL [.str s] = some (.list ((toksB s).1.map eTk)) := encSpec_eq (x := s) hd fun y hy => by
    simp only [List.cons.injEq, and_true, true_and, D.str.injEq, D.int.injEq, D.list.injEq, D.bool.injEq, D.agg.injEq, D.clo.injEq, Int.natCast_inj, inj_ie, D.ref.injEq, eU_e, eWd_e, eWd_ie, eWr_e, eWr_ie, eTk_ie, eTk_e, eFl_ie, eSp_ie, eSp_e, eMc_e, eMc_ie, hid_e] at hy
    rw [hy]
theorem f_tokL_ok : PureOK Tryz.prog 30 false g_tokL := by
  have hΓ := Γp f_toksR_ok (Γn)
  refine pure_enc (n := 11) (rs := [.tmp 2]) Tryz.func30 (by kernel_rfl) rfl (by kernel_rfl) (by kernel_rfl) ?_
  rintro s hd
  (try dsimp only at hd ⊢)
  refine ⟨fun h => (by cases h), fun k hz0 => ?_⟩
  have e1 := g_toksR_eq hd
  unfold eTks at e1
  rw [start_frame (by simp)]; simp only [enumV, go_sem, emptyH]
  repeat (first
    | (apply axJ; (focus ((with_reducible constructor) <;> rfl)))
    | (apply awT mixedOK hΓ (by kernel_rfl); (simp (disch := omega) only [go_sem, ↓reduceIte, dk, ↓lk, Int.reduceBEq, Int.reduceBNe, Bool.true_bne, Bool.false_bne, Bool.not_true, Bool.not_false, e1] <;> with_reducible rfl))
    | ((first | apply awR hΓ | apply awG | apply awH mixedOK hΓ rfl (by kernel_rfl) | apply ovE rfl); (simp (disch := omega) only [go_sem, ↓reduceIte, dk, ↓lk, Int.reduceBEq, Int.reduceBNe, Bool.true_bne, Bool.false_bne, Bool.not_true, Bool.not_false, e1] <;> with_reducible rfl); exact trivial)
    | rfl)
  try rfl
def wkFs : List Fl := [([97, 47, 98], [50, 10, 40, 32, 97, 32, 43, 10, 98, 32, 41, 10, 113, 10, 112])]
def wkUs : List Mc := [⟨[112], [], ([97, 47, 98], 3, 4)⟩, ⟨[113], [], ([97, 47, 98], 4, 5)⟩, ⟨[115, 117, 109], [[97], [98]], ([97, 47, 98], 1, 3)⟩, ⟨[116, 119, 111], [], ([97, 47, 98], 0, 1)⟩]
def tkOK (l : List Tk) : Bool := decide (l.length ≤ 1000) && l.all fun t => decide (t.2.length ≤ 1000)
theorem tkOK_d {l : List Tk} (h : tkOK l = true) : l.length ≤ 1099511627776 ∧ ∀ t ∈ l, t.2.length ≤ 1000000000 := by
  unfold tkOK at h
  simp only [Bool.and_eq_true, decide_eq_true_eq, List.all_eq_true] at h
  exact ⟨by omega, fun t ht => by have := h.2 t ht; omega⟩
theorem wk_kS1 : tkOK (toksB [120, 32, 42, 32, 115, 117, 109, 32, 40, 32, 116, 119, 111, 32, 44, 32, 115, 117, 109, 32, 41]).1 = true := by kernel_rfl
theorem wk_kS2 : tkOK (toksB [112]).1 = true := by kernel_rfl
theorem wk_kS3 : tkOK (toksB [115, 117, 109, 32, 40, 32, 49, 32, 41]).1 = true := by kernel_rfl
theorem wk_kS4 : tkOK (toksB [115, 117, 109, 32, 40, 32, 44, 32, 49, 32, 41]).1 = true := by kernel_rfl
theorem wk_kS5 : tkOK (toksB [115, 117, 109, 32, 43, 32, 49]).1 = true := by kernel_rfl
theorem wk_kS6 : tkOK (toksB [120, 32, 42, 32, 40, 32, 50, 32, 43, 32, 115, 117, 109, 32, 41]).1 = true := by kernel_rfl
theorem wk_l1 : lineG wkFs wkUs (toksB [120, 32, 42, 32, 115, 117, 109, 32, 40, 32, 116, 119, 111, 32, 44, 32, 115, 117, 109, 32, 41]).1 = (((toksB [120, 32, 42, 32, 40, 32, 50, 32, 43, 32, 115, 117, 109, 32, 41]).1, [([97, 47, 98], 0, 3)]), 0) := by kernel_rfl
theorem wk_l2 : lineG wkFs wkUs (toksB [112]).1 = (((toksB [112]).1, [([97, 47, 98], 3, 5)]), 0) := by kernel_rfl
theorem wk_l3 : lineG wkFs wkUs (toksB [115, 117, 109, 32, 40, 32, 49, 32, 41]).1 = (([], []), 9) := by kernel_rfl
theorem wk_l4 : lineG wkFs wkUs (toksB [115, 117, 109, 32, 40, 32, 44, 32, 49, 32, 41]).1 = (([], []), 4) := by kernel_rfl
theorem wk_l5 : lineG wkFs wkUs (toksB [115, 117, 109, 32, 43, 32, 49]).1 = (([], []), 4) := by kernel_rfl
theorem mc_cells7 {l : List Mc} : (∀ d ∈ l.map eMc, d.cells.length = 5) ∧ ∀ d ∈ flat (l.map eMc), d.one = true := by
  constructor
  · intro d hd
    obtain ⟨w, _, rfl⟩ := List.mem_map.1 hd
    rfl
  · intro d hd
    unfold flat at hd
    obtain ⟨x, hx, hd⟩ := List.mem_flatMap.1 hd
    obtain ⟨w, _, rfl⟩ := List.mem_map.1 hx
    simp only [eMc, D.cells, List.mem_cons, List.not_mem_nil, or_false] at hd
    rcases hd with rfl | rfl | rfl | rfl | rfl <;> rfl
noncomputable def g_wk07 : List D → Option D := encSpec (fun _ : Unit => []) (fun _ => True) (fun _ => .bool true)
theorem g_wk07_eq : g_wk07 [] = some (.bool true) := encSpec_eq (x := ()) trivial fun _ _ => rfl
theorem f_wk07_ok : PureOK Tryz.prog 9 true g_wk07 := by
  have hΓ := (Γp f_lineP7_ok (Γp f_tokL_ok (Γp f_sameT_ok (Γp f_eqL07_ok (Γn)))))
  refine pure_enc (n := 111) (rs := [.tmp 0]) Tryz.func9 (by kernel_rfl) rfl (by kernel_rfl) (by kernel_rfl) ?_
  rintro _ _
  refine ⟨fun _ => .bool _, fun k hz0 => ?_⟩
  have dd : (wkFs.length ≤ 1099511627776 ∧ ∀ f ∈ wkFs, f.2.length ≤ 1000000000) ∧ (wkUs.length ≤ 1000000 ∧ ∀ m ∈ wkUs, m.params.length ≤ 1000000 ∧ m.name.length ≤ 1099511627776) := ⟨⟨by decide, by decide⟩, by decide, by decide⟩
  have p1 := g_tokL_eq (s := [120, 32, 42, 32, 115, 117, 109, 32, 40, 32, 116, 119, 111, 32, 44, 32, 115, 117, 109, 32, 41]) (by decide)
  have p2 := g_tokL_eq (s := [112]) (by decide)
  have p3 := g_tokL_eq (s := [115, 117, 109, 32, 40, 32, 49, 32, 41]) (by decide)
  have p4 := g_tokL_eq (s := [115, 117, 109, 32, 40, 32, 44, 32, 49, 32, 41]) (by decide)
  have p5 := g_tokL_eq (s := [115, 117, 109, 32, 43, 32, 49]) (by decide)
  have p6 := g_tokL_eq (s := [120, 32, 42, 32, 40, 32, 50, 32, 43, 32, 115, 117, 109, 32, 41]) (by decide)
  have q1 := g_lineP7_eq (fs := wkFs) (us := wkUs) (l := (toksB [120, 32, 42, 32, 115, 117, 109, 32, 40, 32, 116, 119, 111, 32, 44, 32, 115, 117, 109, 32, 41]).1) ⟨dd, tkOK_d wk_kS1⟩
  rw [wk_l1] at q1
  have q2 := g_lineP7_eq (fs := wkFs) (us := wkUs) (l := (toksB [112]).1) ⟨dd, tkOK_d wk_kS2⟩
  rw [wk_l2] at q2
  have q3 := g_lineP7_eq (fs := wkFs) (us := wkUs) (l := (toksB [115, 117, 109, 32, 40, 32, 49, 32, 41]).1) ⟨dd, tkOK_d wk_kS3⟩
  rw [wk_l3] at q3
  have q4 := g_lineP7_eq (fs := wkFs) (us := wkUs) (l := (toksB [115, 117, 109, 32, 40, 32, 44, 32, 49, 32, 41]).1) ⟨dd, tkOK_d wk_kS4⟩
  rw [wk_l4] at q4
  have q5 := g_lineP7_eq (fs := wkFs) (us := wkUs) (l := (toksB [115, 117, 109, 32, 43, 32, 49]).1) ⟨dd, tkOK_d wk_kS5⟩
  rw [wk_l5] at q5
  have r2 := g_sameT_eq (a := (toksB [112]).1) (b := (toksB [112]).1) ⟨(tkOK_d wk_kS2).1, (tkOK_d wk_kS2).1⟩
  have r6 := g_sameT_eq (a := (toksB [120, 32, 42, 32, 40, 32, 50, 32, 43, 32, 115, 117, 109, 32, 41]).1) (b := (toksB [120, 32, 42, 32, 40, 32, 50, 32, 43, 32, 115, 117, 109, 32, 41]).1) ⟨(tkOK_d wk_kS6).1, (tkOK_d wk_kS6).1⟩
  rw [decide_eq_true rfl] at r2 r6
  have t1 := g_eqL07_eq (a := [([97, 47, 98], 0, 3)]) (b := [([97, 47, 98], 0, 3)]) ⟨by decide, by decide⟩
  have t2 := g_eqL07_eq (a := [([97, 47, 98], 3, 5)]) (b := [([97, 47, 98], 3, 5)]) ⟨by decide, by decide⟩
  rw [decide_eq_true rfl] at t1 t2
  clear dd
  generalize (toksB [120, 32, 42, 32, 115, 117, 109, 32, 40, 32, 116, 119, 111, 32, 44, 32, 115, 117, 109, 32, 41]).1 = T1 at *
  generalize (toksB [112]).1 = T2 at *
  generalize (toksB [115, 117, 109, 32, 40, 32, 49, 32, 41]).1 = T3 at *
  generalize (toksB [115, 117, 109, 32, 40, 32, 44, 32, 49, 32, 41]).1 = T4 at *
  generalize (toksB [115, 117, 109, 32, 43, 32, 49]).1 = T5 at *
  generalize (toksB [120, 32, 42, 32, 40, 32, 50, 32, 43, 32, 115, 117, 109, 32, 41]).1 = T6 at *
  replace q1 : g_lineP7 [.list [.agg [.str [97, 47, 98], .str [50, 10, 40, 32, 97, 32, 43, 10, 98, 32, 41, 10, 113, 10, 112]]], .agg [.str [], .list [], .list [.agg [.str [112], .list [], .str [97, 47, 98], .int .i64 3, .int .i64 4], .agg [.str [113], .list [], .str [97, 47, 98], .int .i64 4, .int .i64 5], .agg [.str [115, 117, 109], .list [.str [97], .str [98]], .str [97, 47, 98], .int .i64 1, .int .i64 3], .agg [.str [116, 119, 111], .list [], .str [97, 47, 98], .int .i64 0, .int .i64 1]], .list [], .list [], .list []], .list (T1.map eTk)] = some (.tup [.list (T6.map eTk), .list [.agg [.str [97, 47, 98], .int .i64 0, .int .i64 3]], .int .i64 0]) := q1
  replace q2 : g_lineP7 [.list [.agg [.str [97, 47, 98], .str [50, 10, 40, 32, 97, 32, 43, 10, 98, 32, 41, 10, 113, 10, 112]]], .agg [.str [], .list [], .list [.agg [.str [112], .list [], .str [97, 47, 98], .int .i64 3, .int .i64 4], .agg [.str [113], .list [], .str [97, 47, 98], .int .i64 4, .int .i64 5], .agg [.str [115, 117, 109], .list [.str [97], .str [98]], .str [97, 47, 98], .int .i64 1, .int .i64 3], .agg [.str [116, 119, 111], .list [], .str [97, 47, 98], .int .i64 0, .int .i64 1]], .list [], .list [], .list []], .list (T2.map eTk)] = some (.tup [.list (T2.map eTk), .list [.agg [.str [97, 47, 98], .int .i64 3, .int .i64 5]], .int .i64 0]) := q2
  replace q3 : g_lineP7 [.list [.agg [.str [97, 47, 98], .str [50, 10, 40, 32, 97, 32, 43, 10, 98, 32, 41, 10, 113, 10, 112]]], .agg [.str [], .list [], .list [.agg [.str [112], .list [], .str [97, 47, 98], .int .i64 3, .int .i64 4], .agg [.str [113], .list [], .str [97, 47, 98], .int .i64 4, .int .i64 5], .agg [.str [115, 117, 109], .list [.str [97], .str [98]], .str [97, 47, 98], .int .i64 1, .int .i64 3], .agg [.str [116, 119, 111], .list [], .str [97, 47, 98], .int .i64 0, .int .i64 1]], .list [], .list [], .list []], .list (T3.map eTk)] = some (.tup [.list [], .list [], .int .i64 9]) := q3
  replace q4 : g_lineP7 [.list [.agg [.str [97, 47, 98], .str [50, 10, 40, 32, 97, 32, 43, 10, 98, 32, 41, 10, 113, 10, 112]]], .agg [.str [], .list [], .list [.agg [.str [112], .list [], .str [97, 47, 98], .int .i64 3, .int .i64 4], .agg [.str [113], .list [], .str [97, 47, 98], .int .i64 4, .int .i64 5], .agg [.str [115, 117, 109], .list [.str [97], .str [98]], .str [97, 47, 98], .int .i64 1, .int .i64 3], .agg [.str [116, 119, 111], .list [], .str [97, 47, 98], .int .i64 0, .int .i64 1]], .list [], .list [], .list []], .list (T4.map eTk)] = some (.tup [.list [], .list [], .int .i64 4]) := q4
  replace q5 : g_lineP7 [.list [.agg [.str [97, 47, 98], .str [50, 10, 40, 32, 97, 32, 43, 10, 98, 32, 41, 10, 113, 10, 112]]], .agg [.str [], .list [], .list [.agg [.str [112], .list [], .str [97, 47, 98], .int .i64 3, .int .i64 4], .agg [.str [113], .list [], .str [97, 47, 98], .int .i64 4, .int .i64 5], .agg [.str [115, 117, 109], .list [.str [97], .str [98]], .str [97, 47, 98], .int .i64 1, .int .i64 3], .agg [.str [116, 119, 111], .list [], .str [97, 47, 98], .int .i64 0, .int .i64 1]], .list [], .list [], .list []], .list (T5.map eTk)] = some (.tup [.list [], .list [], .int .i64 4]) := q5
  replace t1 : g_eqL07 [.list [.agg [.str [97, 47, 98], .int .i64 0, .int .i64 3]], .list [.agg [.str [97, 47, 98], .int .i64 0, .int .i64 3]]] = some (.bool true) := t1
  replace t2 : g_eqL07 [.list [.agg [.str [97, 47, 98], .int .i64 3, .int .i64 5]], .list [.agg [.str [97, 47, 98], .int .i64 3, .int .i64 5]]] = some (.bool true) := t2
  rw [start_frame (by simp)]; simp only [enumV, go_sem, emptyH]
  repeat (first
    | (apply axJ; (focus ((with_reducible constructor) <;> rfl)))
    | (apply awT mixedOK hΓ (by kernel_rfl); (simp (disch := omega) only [go_sem, ↓reduceIte, dk, ↓lk, Int.reduceBEq, Int.reduceBNe, Bool.true_bne, Bool.false_bne, Bool.not_true, Bool.not_false, Int.reduceToNat, List.getElem?_cons_zero, List.getElem?_cons_succ, ↓ty_build67, ↓ty_build26, ↓ty_build28, ↓ty_build37] <;> with_reducible rfl))
    | ((first | apply awR hΓ | apply awG | apply awH mixedOK hΓ rfl (by kernel_rfl) | apply ovE rfl); (simp (disch := omega) only [go_sem, ↓reduceIte, dk, ↓lk, Int.reduceBEq, Int.reduceBNe, Bool.true_bne, Bool.false_bne, Bool.not_true, Bool.not_false, Int.reduceToNat, List.getElem?_cons_zero, List.getElem?_cons_succ, ↓ty_build67, ↓ty_build26, ↓ty_build28, ↓ty_build37] <;> with_reducible rfl); exact trivial)
    | rfl)
  repeat (first
    | (apply axJ; (focus ((with_reducible constructor) <;> rfl)))
    | (apply awT mixedOK hΓ (by kernel_rfl); (simp (disch := omega) only [go_sem, ↓reduceIte, dk, ↓lk, Int.reduceBEq, Int.reduceBNe, Bool.true_bne, Bool.false_bne, Bool.not_true, Bool.not_false, Int.reduceToNat, List.getElem?_cons_zero, List.getElem?_cons_succ, ↓ty_build67, ↓ty_build26, ↓ty_build28, ↓ty_build37, zeroLoose, partsLoose, arrRep] <;> with_reducible rfl))
    | ((first | apply awN hΓ | apply awG | apply awH mixedOK hΓ rfl (by kernel_rfl) | apply ovE rfl); (simp (disch := omega) only [go_sem, ↓reduceIte, dk, ↓lk, Int.reduceBEq, Int.reduceBNe, Bool.true_bne, Bool.false_bne, Bool.not_true, Bool.not_false, Int.reduceToNat, List.getElem?_cons_zero, List.getElem?_cons_succ, ↓ty_build67, ↓ty_build26, ↓ty_build28, ↓ty_build37, zeroLoose, partsLoose, arrRep] <;> with_reducible rfl); exact trivial)
    | rfl)
  refine awp_weak (Weak.trans (Weak.freeze (o := 8) rfl) (Weak.trans (Weak.arrRow (o := 13) (l := wkUs.map eMc) rfl ⟨rfl, .inr (.inl ⟨rfl, rfl⟩), rfl, rfl, rfl, rfl, .inr (.inl ⟨rfl, rfl⟩), rfl, rfl, rfl, rfl, .inr (.inr ⟨8, 2, rfl, rfl, rfl⟩), rfl, rfl, rfl, rfl, .inr (.inl ⟨rfl, rfl⟩), rfl, rfl, rfl, trivial⟩ rfl mc_cells7.1 mc_cells7.2) (Weak.trans (Weak.freeze (o := 13) rfl) (Weak.trans (Weak.boxConv (o := 15) (cs' := [.data (.str []), .data (.list []), .data (.list [.agg [.str [112], .list [], .str [97, 47, 98], .int .i64 3, .int .i64 4], .agg [.str [113], .list [], .str [97, 47, 98], .int .i64 4, .int .i64 5], .agg [.str [115, 117, 109], .list [.str [97], .str [98]], .str [97, 47, 98], .int .i64 1, .int .i64 3], .agg [.str [116, 119, 111], .list [], .str [97, 47, 98], .int .i64 0, .int .i64 1]]), .data (.list []), .data (.list []), .data (.list [])]) rfl ⟨rfl, .inr (.inl ⟨rfl, rfl⟩), .inr (.inr ⟨13, 4, rfl, rfl, rfl⟩), .inr (.inl ⟨rfl, rfl⟩), .inr (.inl ⟨rfl, rfl⟩), .inr (.inl ⟨rfl, rfl⟩), trivial⟩) (Weak.trans (Weak.freeze (o := 2) rfl) (show Weak _ _ _ ((frame 111 [(1, .data (.list [.agg [.str [97, 47, 98], .str [50, 10, 40, 32, 97, 32, 43, 10, 98, 32, 41, 10, 113, 10, 112]]])), (2, .ptr 15 0)])) ⟨[(15, .box [.data (.str []), .data (.list []), .data (.list [.agg [.str [112], .list [], .str [97, 47, 98], .int .i64 3, .int .i64 4], .agg [.str [113], .list [], .str [97, 47, 98], .int .i64 4, .int .i64 5], .agg [.str [115, 117, 109], .list [.str [97], .str [98]], .str [97, 47, 98], .int .i64 1, .int .i64 3], .agg [.str [116, 119, 111], .list [], .str [97, 47, 98], .int .i64 0, .int .i64 1]]), .data (.list []), .data (.list []), .data (.list [])])], 17⟩ from Weak.v (by (simp [ConvF, lookV, Conv, ints, upd, Heap.set, Heap.get, look]; done)) (by (simp (disch := omega) only [TabSub, look, if_pos, if_neg, Obj.refsOK, refsOKs, AV.refsOK, decide_eq_true_eq, Bool.and_true, Bool.and_self, upd, Heap.set, Heap.get, look] ) <;> ((repeat' apply And.intro) <;> first | exact True.intro | omega | (simp; done) | rfl)))))))) ?_
  repeat (first
    | (apply axJ; (focus ((with_reducible constructor) <;> rfl)))
    | (apply awT mixedOK hΓ (by kernel_rfl); (simp (disch := omega) only [go_sem, ↓reduceIte, dk, ↓lk, Int.reduceBEq, Int.reduceBNe, Bool.true_bne, Bool.false_bne, Bool.not_true, Bool.not_false, Int.reduceToNat, List.getElem?_cons_zero, List.getElem?_cons_succ, p1, p2, p3, p4, p5, p6, q1, q2, q3, q4, q5] <;> with_reducible rfl))
    | ((first | apply awR hΓ | apply awG | apply awH mixedOK hΓ rfl (by kernel_rfl) | apply ovE rfl); (simp (disch := omega) only [go_sem, ↓reduceIte, dk, ↓lk, Int.reduceBEq, Int.reduceBNe, Bool.true_bne, Bool.false_bne, Bool.not_true, Bool.not_false, Int.reduceToNat, List.getElem?_cons_zero, List.getElem?_cons_succ, p1, p2, p3, p4, p5, p6, q1, q2, q3, q4, q5] <;> with_reducible rfl); exact trivial)
    | rfl)
  refine awp_weak (show Weak _ _ _ ((frame 111 [(3, .data (.list (T6.map eTk))), (4, .data (.list [.agg [.str [97, 47, 98], .int .i64 0, .int .i64 3]])), (5, .data (.int .i64 0)), (6, .data (.list (T2.map eTk))), (7, .data (.list [.agg [.str [97, 47, 98], .int .i64 3, .int .i64 5]])), (8, .data (.int .i64 0)), (11, .data (.int .i64 9)), (14, .data (.int .i64 4)), (17, .data (.int .i64 4))])) ⟨[], 72⟩ from Weak.v (by (simp [ConvF, lookV, Conv, ints, Heap.get, look]; done)) (by (simp (disch := omega) only [TabSub, look, if_pos, if_neg, Obj.refsOK, refsOKs, AV.refsOK, decide_eq_true_eq, Bool.and_true, Bool.and_self, Heap.get, look] ) <;> ((repeat' apply And.intro) <;> first | exact True.intro | omega | (simp; done) | rfl))) ?_
  apply awR hΓ
  · simp (maxSteps := 4000000) (disch := omega) only [go_sem, ↓reduceIte, dk, ↓lk, Int.reduceBEq, Int.reduceBNe, Bool.true_bne, Bool.false_bne, Bool.not_true, Bool.not_false, Int.reduceToNat, Int.reduceAdd, List.getElem?_cons_zero, List.getElem?_cons_succ, BEq.rfl, List.append_eq, List.cons_append, List.nil_append, ↓ty_build26, p2, p6, r2, r6, t1, t2]
    with_reducible rfl
  exact trivial
  repeat (first
    | (apply axJ; (focus ((with_reducible constructor) <;> rfl)))
    | (apply awT mixedOK hΓ (by kernel_rfl); (simp (disch := omega) only [go_sem, ↓reduceIte, dk] <;> with_reducible rfl))
    | ((first | apply awR hΓ | apply awG | apply awH mixedOK hΓ rfl (by kernel_rfl) | apply ovE rfl); (simp (disch := omega) only [go_sem, ↓reduceIte, dk] <;> with_reducible rfl); exact trivial)
    | rfl)
  try rfl
end Go.Ab
namespace Go.Ab
open Go Go.RowKit Go.Proofs
set_option maxRecDepth 100000
set_option maxHeartbeats 16000000
def few07 (fs : List Fl) (us : List Mc) (l : List Tk) (tx : Bs) : Bool := ((few3 fs 8 3000 && few7 us) && few5 l) && decide ((tx.length : Int) ≤ 300)
noncomputable def g_unit07 : List D → Option D := encSpec (fun x : (List Fl) × (List Mc) × (List Tk) × Bs × Int × Bs => [.agg [.list (x.1.map eFl), .list (x.2.1.map eMc), .list (x.2.2.1.map eTk), .str x.2.2.2.1, i64 x.2.2.2.2.1, .str x.2.2.2.2.2]]) (fun x : (List Fl) × (List Mc) × (List Tk) × Bs × Int × Bs => True) (fun x : (List Fl) × (List Mc) × (List Tk) × Bs × Int × Bs => eU x.2.1)
theorem g_unit07_eq {fs : List Fl} {us : List Mc} {l : List Tk} {lp : Bs} {ln : Int} {tx : Bs} (hd : True) : g_unit07 [.agg [.list (fs.map eFl), .list (us.map eMc), .list (l.map eTk), .str lp, .int .i64 ln, .str tx]] = some (eU us) := encSpec_eq (x := (fs, us, l, lp, ln, tx)) hd fun y hy => by
    obtain ⟨y0, y1, y2, y3, y4, y5⟩ := y; simp only [List.cons.injEq, and_true, true_and, D.str.injEq, D.int.injEq, D.list.injEq, D.bool.injEq, D.agg.injEq, D.clo.injEq, Int.natCast_inj, inj_ie, D.ref.injEq, eU_e, eWd_e, eWd_ie, eWr_e, eWr_ie, eTk_ie, eTk_e, eFl_ie, eSp_ie, eSp_e, eMc_e, eMc_ie, hid_e] at hy
    (try obtain ⟨rfl, rfl, rfl, rfl, rfl, rfl⟩ := hy)
    (try subst_vars)
    rfl
theorem f_unit07_ok : PureOK Tryz.prog 17 false g_unit07 := by
  have hΓ := Γ0_ok
  refine pure_enc (n := 6) (rs := [.cell 2 37]) Tryz.func17 (by kernel_rfl) rfl (by kernel_rfl) (by kernel_rfl) ?_
  rintro ⟨fs, us, l, lp, ln, tx⟩ hd
  (try dsimp only at hd ⊢)
  refine ⟨fun h => (by cases h), fun k hz0 => ?_⟩
  rw [eU_eq]
  rw [start_frame (by simp)]; simp only [enumV, go_sem, emptyH]
  repeat (first
    | (apply axJ; (focus ((with_reducible constructor) <;> rfl)))
    | (apply awT mixedOK hΓ (by kernel_rfl); (simp (disch := omega) only [go_sem, ↓reduceIte, dk, ↓lk, Int.reduceBEq, Int.reduceBNe, Bool.true_bne, Bool.false_bne, Bool.not_true, Bool.not_false, ↓ty_build37] <;> with_reducible rfl))
    | ((first | apply awR hΓ | apply awG | apply awH mixedOK hΓ rfl (by kernel_rfl) | apply ovE rfl); (simp (disch := omega) only [go_sem, ↓reduceIte, dk, ↓lk, Int.reduceBEq, Int.reduceBNe, Bool.true_bne, Bool.false_bne, Bool.not_true, Bool.not_false, ↓ty_build37] <;> with_reducible rfl); exact trivial)
    | rfl)
  try rfl
noncomputable def g_fewC : List D → Option D := encSpec (fun x : (List Fl) × (List Mc) × (List Tk) × Bs × Int × Bs => [.agg [.list (x.1.map eFl), .list (x.2.1.map eMc), .list (x.2.2.1.map eTk), .str x.2.2.2.1, i64 x.2.2.2.2.1, .str x.2.2.2.2.2]]) (fun x : (List Fl) × (List Mc) × (List Tk) × Bs × Int × Bs => (x.1.length ≤ 1099511627776 ∧ ∀ f ∈ x.1, f.2.length ≤ 1099511627776) ∧ (x.2.1.length ≤ 1099511627776 ∧ ∀ m ∈ x.2.1, m.params.length ≤ 1099511627776) ∧ x.2.2.1.length ≤ 1099511627776) (fun x : (List Fl) × (List Mc) × (List Tk) × Bs × Int × Bs => .bool (few07 x.1 x.2.1 x.2.2.1 x.2.2.2.2.2))
theorem g_fewC_eq {fs : List Fl} {us : List Mc} {l : List Tk} {lp : Bs} {ln : Int} {tx : Bs} (hd : (fs.length ≤ 1099511627776 ∧ ∀ f ∈ fs, f.2.length ≤ 1099511627776) ∧ (us.length ≤ 1099511627776 ∧ ∀ m ∈ us, m.params.length ≤ 1099511627776) ∧ l.length ≤ 1099511627776) : g_fewC [.agg [.list (fs.map eFl), .list (us.map eMc), .list (l.map eTk), .str lp, .int .i64 ln, .str tx]] = some (.bool (few07 fs us l tx)) := encSpec_eq (x := (fs, us, l, lp, ln, tx)) hd fun y hy => by
    obtain ⟨y0, y1, y2, y3, y4, y5⟩ := y; simp only [List.cons.injEq, and_true, true_and, D.str.injEq, D.int.injEq, D.list.injEq, D.bool.injEq, D.agg.injEq, D.clo.injEq, Int.natCast_inj, inj_ie, D.ref.injEq, eU_e, eWd_e, eWd_ie, eWr_e, eWr_ie, eTk_ie, eTk_e, eFl_ie, eSp_ie, eSp_e, eMc_e, eMc_ie, hid_e] at hy
    (try obtain ⟨rfl, rfl, rfl, rfl, rfl, rfl⟩ := hy)
    (try subst_vars)
    rfl
theorem f_fewC_ok : PureOK Tryz.prog 15 true g_fewC := by
  have hΓ := Γp f_few3b_ok (Γp f_few7R_ok (Γp f_few5R_ok (Γp f_unit07_ok (Γn))))
  refine pure_enc (n := 22) (rs := [.tmp 2]) Tryz.func15 (by kernel_rfl) rfl (by kernel_rfl) (by kernel_rfl) ?_
  rintro ⟨fs, us, l, lp, ln, tx⟩ hd
  (try dsimp only at hd ⊢)
  refine ⟨fun _ => by (repeat (first | exact .int _ _ | exact .bool _ | exact .str _ | (refine .tup _ (fun d hd => ?_); simp only [List.mem_cons, List.not_mem_nil, or_false] at hd; rcases hd with rfl | hd))), fun k hz0 => ?_⟩
  obtain ⟨⟨d1, d2⟩, ⟨d3, d4⟩, d5⟩ := hd
  have e1 := g_few3b_eq (l := fs) (m := 8) (z := 3000) ⟨d1, d2, by decide, by decide⟩
  have e2 := g_few7R_eq (us := us) ⟨d3, d4⟩
  have e3 := g_few5R_eq (l := l) d5
  have e4 := g_unit07_eq (fs := fs) (us := us) (l := l) (lp := lp) (ln := ln) (tx := tx) trivial
  rw [eU_eq] at e2 e4
  unfold few07
  generalize few3 fs 8 3000 = c1 at *
  generalize few7 us = c2 at *
  generalize few5 l = c3 at *
  generalize hc : decide ((tx.length : Int) ≤ 300) = c4
  rw [start_frame (by simp)]; simp only [enumV, go_sem, emptyH]
  cases c1 <;> cases c2 <;> cases c3
  all_goals
    repeat (first
      | (apply axJ; (focus ((with_reducible constructor) <;> rfl)))
      | (apply awT mixedOK hΓ (by kernel_rfl); (simp (disch := omega) only [go_sem, ↓reduceIte, dk, ↓lk, Int.reduceBEq, Int.reduceBNe, Bool.true_bne, Bool.false_bne, Bool.not_true, Bool.not_false, e1, e2, e3, e4, hc] <;> with_reducible rfl))
      | ((first | apply awR hΓ | apply awG | apply awH mixedOK hΓ rfl (by kernel_rfl) | apply ovE rfl); (simp (disch := omega) only [go_sem, ↓reduceIte, dk, ↓lk, Int.reduceBEq, Int.reduceBNe, Bool.true_bne, Bool.false_bne, Bool.not_true, Bool.not_false, e1, e2, e3, e4, hc] <;> with_reducible rfl); exact trivial)
      | rfl)
    try rfl
theorem few3Go_d {z : Int} : ∀ {l : List Fl} {n : Int}, few3Go z n l = true → 0 ≤ n → ∀ f ∈ l, (f.2.length : Int) + n ≤ z
  | [], _, _, _, f, hf => by cases hf
  | x :: r, n, h, hn, f, hf => by
    rw [few3Go] at h
    split at h
    · cases h
    · rename_i hc
      simp only [Bool.or_eq_true, decide_eq_true_eq, not_or, Int.not_lt] at hc
      rcases List.mem_cons.1 hf with rfl | hf
      · omega
      · have := few3Go_d h (by omega) f hf
        omega
theorem few3_d {l : List Fl} (h : few3 l 8 3000 = true) : l.length ≤ 8 ∧ ∀ f ∈ l, f.2.length ≤ 3000 := by
  unfold few3 at h
  split at h
  · cases h
  · rename_i hc
    simp only [decide_eq_true_eq, Int.not_lt] at hc
    exact ⟨by omega, fun f hf => by have := few3Go_d h (by decide) f hf; omega⟩
theorem few7_d {us : List Mc} (h : few7 us = true) : us.length ≤ 20 ∧ ∀ m ∈ us, m.params.length ≤ 12 ∧ m.name.length ≤ 100 := by
  unfold few7 at h
  simp only [Bool.and_eq_true, decide_eq_true_eq, List.all_eq_true] at h
  refine ⟨by omega, fun m hm => ?_⟩
  have := h.1 m hm
  unfold fewM at this
  simp only [Bool.and_eq_true, Bool.not_eq_true', decide_eq_false_iff_not] at this
  omega
theorem few5_d {l : List Tk} (h : few5 l = true) : l.length ≤ 300 ∧ ∀ t ∈ l, t.2.length ≤ 50 := by
  unfold few5 at h
  simp only [Bool.and_eq_true, decide_eq_true_eq, List.all_eq_true, Bool.not_eq_true', decide_eq_false_iff_not] at h
  exact ⟨by omega, fun t ht => by have := h.1 t ht; omega⟩
theorem few07_d {fs : List Fl} {us : List Mc} {l : List Tk} {tx : Bs} (h : few07 fs us l tx = true) : (fs.length ≤ 8 ∧ ∀ f ∈ fs, f.2.length ≤ 3000) ∧ (us.length ≤ 20 ∧ ∀ m ∈ us, m.params.length ≤ 12 ∧ m.name.length ≤ 100) ∧ (l.length ≤ 300 ∧ ∀ t ∈ l, t.2.length ≤ 50) ∧ tx.length ≤ 300 := by
  unfold few07 at h
  simp only [Bool.and_eq_true, decide_eq_true_eq] at h
  exact ⟨few3_d h.1.1.1, few7_d h.1.1.2, few5_d h.1.2, by omega⟩
theorem loopG_len {fs : List Fl} {us : List Mc} : ∀ {k : Nat} {l : List Wd} {rd : List Sp}, (loopG fs us k l rd).1.1.length ≤ max l.length 256 ∧ (loopG fs us k l rd).1.2.length ≤ rd.length + k
  | k, l, rd => by
    rw [loopG_eq]
    split
    · exact ⟨by dsimp only; omega, by dsimp only; omega⟩
    · split
      · exact ⟨by simp, by simp⟩
      · rename_i i m _ _ k
        split
        · have h1 := loopG_len (fs := fs) (us := us) (k := k) (l := (replG fs m l i).1) (rd := rd ++ [m.body])
          have h2 := repl_len (fs := fs) (m := m) (l := l) (i := i)
          rw [List.length_append] at h1
          simp only [List.length_cons, List.length_nil] at h1
          omega
        · exact ⟨by simp, by simp⟩
  termination_by k => k
theorem lineG_len {fs : List Fl} {us : List Mc} {l : List Tk} : (lineG fs us l).1.1.length ≤ max l.length 256 ∧ (lineG fs us l).1.2.length ≤ 256 := by
  unfold lineG
  split
  · have h := loopG_len (fs := fs) (us := us) (k := 256) (l := w0 l) (rd := [])
    have h2 := setG_len (loopG fs us 256 (w0 l) []).1.2
    have h3 : (w0 l).length = l.length := by simp [w0]
    simp only [List.length_nil, h3] at h
    dsimp only
    rw [List.length_map]
    unfold w0 at h h2
    omega
  · exact ⟨by simp, by simp⟩
end Go.Ab
namespace Go.Ab
open Go Go.RowKit Go.Proofs
open Go.Proofs.YtapnigckcnknoaaGreatDoor
set_option maxRecDepth 4000
mutual
theorem bulk_le {H : Type} : ∀ d : DataW H, bulk d ≤ Rows.uptoBulk d
  | .lit l => by cases l <;> simp [bulk, Rows.uptoBulk]
  | .nil => by simp [bulk, Rows.uptoBulk]
  | .ptr d => by have := bulk_le d; simp only [bulk, Rows.uptoBulk]; omega
  | .slice a b => by have := bulkAll_le a; have := bulkAll_le b; simp only [bulk, Rows.uptoBulk]; omega
  | .agg a => by have := bulkAll_le a; simp only [bulk, Rows.uptoBulk]; omega
  | .iface _ d => by have := bulk_le d; simp only [bulk, Rows.uptoBulk]; omega
  | .map es => by simp [bulk, Rows.uptoBulk]
  | .held _ => by simp [bulk, Rows.uptoBulk]
theorem bulkAll_le {H : Type} : ∀ l : List (DataW H), bulkAll l ≤ Rows.uptoBulkAll l
  | [] => by simp [bulkAll, Rows.uptoBulkAll]
  | d :: r => by have := bulk_le d; have := bulkAll_le r; simp only [bulkAll, Rows.uptoBulkAll]; omega
end
theorem trodAll_len {H : Type} {enc : TypeId × Value → H} {P : Program} {W : World} : ∀ (ts : List TypeId) (vs : List Value) (ds : List (DataW H)) (ps : List MemPlace), DataW.TrodAll enc P W 0 (fun _ => true) true ts vs ds ps → ds.length = ts.length
  | [], vs, ds, ps, h => by
    obtain ⟨rfl, rfl, rfl⟩ := ChangeShapes.trodAll_nil h
    rfl
  | t :: ts, vs, ds, ps, h => by
    obtain ⟨v, vs', d, ds', p, q, rfl, rfl, rfl, h1, h2⟩ := ChangeShapes.trodAll_cons h
    simp [trodAll_len ts vs' ds' q h2]
theorem laid07 : laidOutB Tryz.prog = true := by kernel_rfl
theorem own07 : ownKnob Tryz.prog.godebug = none := by kernel_rfl
def accCells : Array Value := #[.int .u8 128, .int .u8 191, .int .u8 160, .int .u8 191, .int .u8 128, .int .u8 159, .int .u8 144, .int .u8 191, .int .u8 128, .int .u8 143, .int .u8 0, .int .u8 0, .int .u8 0, .int .u8 0, .int .u8 0, .int .u8 0, .int .u8 0, .int .u8 0, .int .u8 0, .int .u8 0, .int .u8 0, .int .u8 0, .int .u8 0, .int .u8 0, .int .u8 0, .int .u8 0, .int .u8 0, .int .u8 0, .int .u8 0, .int .u8 0, .int .u8 0, .int .u8 0]
def firstCells : Array Value := (Go.Pinned.utf8FirstZ.map fun n : Nat => Value.int .u8 (n : Int)).toArray
def layCells (cs : Array Value) : Go.Obj → Go.Obj
  | .cells _ t frozen => .cells cs t frozen
  | o => o
noncomputable def laidWorld (os : Os) : World :=
  { World.holding Tryz.prog os ⟨#[], #[], []⟩ with heap := ((World.holding Tryz.prog os ⟨#[], #[], []⟩).heap.modify 1 (layCells firstCells)).modify 2 (layCells accCells) }
def RT (ty : Ty) (n : Nat) (d : D) : Prop := ∃ cs, HasTy n ty cs ∧ d = ty.pack cs
theorem list_chooseP {α β γ : Type} {f : α → γ} {g : β → γ} {p : β → Prop} : ∀ (ls : List α), (∀ c ∈ ls, ∃ x, f c = g x ∧ p x) → ∃ l : List β, ls.map f = l.map g ∧ l.length = ls.length ∧ ∀ x ∈ l, p x
  | [], _ => ⟨[], rfl, rfl, fun x hx => by cases hx⟩
  | c :: ls, h => by
    obtain ⟨x, hx, hp⟩ := h c List.mem_cons_self
    obtain ⟨l, h1, h2, h3⟩ := list_chooseP ls fun c hc => h c (List.mem_cons_of_mem _ hc)
    exact ⟨x :: l, by simp [hx, h1], by simp [h2], fun y hy => by
      rcases List.mem_cons.1 hy with rfl | hy
      · exact hp
      · exact h3 y hy⟩
theorem has_strs {n : Nat} {cs : List D} (h : HasTy n (.slice .str) cs) : ∃ l : List Bs, cs = [.list (l.map .str)] ∧ l.length ≤ n ∧ ∀ w ∈ l, w.length ≤ n := by
  simp only [HasTy] at h
  obtain ⟨ls, hl, hs, rfl⟩ := h
  obtain ⟨m, e, k, hp⟩ := list_chooseP (f := Ty.str.pack) (g := D.str) (p := fun w : Bs => w.length ≤ n) ls fun c hc => by
    obtain ⟨s, hl, rfl⟩ := hs c hc
    exact ⟨s, rfl, hl⟩
  exact ⟨m, by rw [e], by omega, hp⟩
theorem u8_wf {x : Int} (h : (Lit.int .u8 x).wf = true) : ∃ b : UInt8, x = (b.toNat : Int) := by
  simp only [Lit.wf, Bool.and_eq_true, decide_eq_true_eq, IntKind.min, IntKind.max] at h
  have h1 : 0 ≤ x ∧ x ≤ 255 := by
    refine ⟨?_, ?_⟩ <;> simp_all [IntKind.signed, IntKind.bits] <;> omega
  refine ⟨UInt8.ofNat x.toNat, ?_⟩
  rw [UInt8.toNat_ofNat']
  omega
theorem rt_u8 {n : Nat} {d : D} (h : RT (.int .u8) n d) : ∃ b : UInt8, d = .int .u8 b.toNat := by
  obtain ⟨cs, ⟨x, hw, rfl⟩, rfl⟩ := h
  obtain ⟨b, rfl⟩ := u8_wf hw
  exact ⟨b, rfl⟩
abbrev tyFl : Ty := .struct [.str, .str]
abbrev tySp : Ty := .struct [.str, .int .i64, .int .i64]
abbrev tyMc : Ty := .struct [.str, .slice .str, tySp]
abbrev tyTk : Ty := .struct [.int .i64, .str]
abbrev tyLn : Ty := .struct [.str, .int .i64]
abbrev tyCs : Ty := .struct [.slice tyFl, .slice tyMc, .slice tyTk, tyLn, .str]
theorem has_fl {n : Nat} {cs : List D} (h : HasTy n tyFl cs) : ∃ x : Fl, tyFl.pack cs = eFl x ∧ x.2.length ≤ n := by
  simp only [HasTy, HasTyL] at h
  obtain ⟨_, _, ⟨a, ha, rfl⟩, ⟨_, _, ⟨b, hb, rfl⟩, rfl, rfl⟩, rfl⟩ := h
  exact ⟨(a, b), rfl, hb⟩
theorem has_tk {n : Nat} {cs : List D} (h : HasTy n tyTk cs) : ∃ x : Tk, tyTk.pack cs = eTk x ∧ x.2.length ≤ n := by
  simp only [HasTy, HasTyL] at h
  obtain ⟨_, _, ⟨a, ha, rfl⟩, ⟨_, _, ⟨b, hb, rfl⟩, rfl, rfl⟩, rfl⟩ := h
  exact ⟨(a, b), rfl, hb⟩
theorem has_mc {n : Nat} {cs : List D} (h : HasTy n tyMc cs) : ∃ x : Mc, tyMc.pack cs = eMc x ∧ x.params.length ≤ n := by
  rw [HasTy] at h
  simp only [HasTyL] at h
  obtain ⟨_, _, h1, ⟨_, _, h2, ⟨_, _, h3, rfl, rfl⟩, rfl⟩, rfl⟩ := h
  obtain ⟨ps, rfl, hp, _⟩ := has_strs h2
  simp only [HasTy, HasTyL] at h1 h3
  obtain ⟨a, ha, rfl⟩ := h1
  obtain ⟨_, _, ⟨p, _, rfl⟩, ⟨_, _, ⟨x, _, rfl⟩, ⟨_, _, ⟨y, _, rfl⟩, rfl, rfl⟩, rfl⟩, rfl⟩ := h3
  exact ⟨⟨a, ps, (p, x, y)⟩, rfl, hp⟩
theorem has_sl {α : Type} {n : Nat} {ty : Ty} {e : α → D} {p : α → Prop} {cs : List D} (k : ∀ {cs : List D}, HasTy n ty cs → ∃ x : α, ty.pack cs = e x ∧ p x) (h : HasTy n (.slice ty) cs) : ∃ l : List α, cs = [.list (l.map e)] ∧ l.length ≤ n ∧ ∀ x ∈ l, p x := by
  simp only [HasTy] at h
  obtain ⟨ls, hl, hs, rfl⟩ := h
  obtain ⟨m, e1, k1, hp⟩ := list_chooseP (f := ty.pack) (g := e) (p := p) ls fun c hc => k (hs c hc)
  exact ⟨m, by rw [e1], by omega, hp⟩
theorem rt_case {n : Nat} (hn : n ≤ 1099511627776) {d : D} (h : RT tyCs n d) : ∃ (fs : List Fl) (us : List Mc) (l : List Tk) (lp : Bs) (ln : Int) (tx : Bs), ((fs.length ≤ 1099511627776 ∧ ∀ f ∈ fs, f.2.length ≤ 1099511627776) ∧ (us.length ≤ 1099511627776 ∧ ∀ m ∈ us, m.params.length ≤ 1099511627776) ∧ l.length ≤ 1099511627776) ∧ d = .agg [.list (fs.map eFl), .list (us.map eMc), .list (l.map eTk), .str lp, i64 ln, .str tx] := by
  obtain ⟨cs, h, rfl⟩ := h
  rw [HasTy] at h
  simp only [HasTyL] at h
  obtain ⟨_, _, h1, ⟨_, _, h2, ⟨_, _, h3, ⟨_, _, h4, ⟨_, _, h5, rfl, rfl⟩, rfl⟩, rfl⟩, rfl⟩, rfl⟩ := h
  obtain ⟨fs, rfl, k1, k2⟩ := has_sl has_fl h1
  obtain ⟨us, rfl, k3, k4⟩ := has_sl has_mc h2
  obtain ⟨l, rfl, k5, _⟩ := has_sl has_tk h3
  simp only [HasTy, HasTyL] at h4 h5
  obtain ⟨_, _, ⟨p, _, rfl⟩, ⟨_, _, ⟨x, _, rfl⟩, rfl, rfl⟩, rfl⟩ := h4
  obtain ⟨t, _, rfl⟩ := h5
  exact ⟨fs, us, l, p, x, t, ⟨⟨by omega, fun f hf => by have := k2 f hf; omega⟩, ⟨by omega, fun m hm => by have := k4 m hm; omega⟩, by omega⟩, rfl⟩
end Go.Ab
namespace Go.Ab
open Go Go.RowKit Go.Proofs
set_option maxRecDepth 4000
def isM (m : Mc) (t : Tk) : Bool := t.1 == 1 && t.2 == m.name
def simT (m : Mc) (body : List Tk) (t : Tk) : List Tk := if isM m t then body else [t]
def simW (m : Mc) (body : List Tk) (t : Tk) : List Wd := if isM m t then body.map (fun b => (b, [m.name])) else [(t, [])]
def overG (m : Mc) (b : Nat) : Nat → List Tk → Bool
  | _, [] => false
  | n, t :: r => if isM m t then decide (n + b + r.length > 256) || overG m b (n + b) r else overG m b (n + 1) r
theorem isM_iff {m : Mc} {t : Tk} : isM m t = true ↔ t.1 = 1 ∧ t.2 = m.name := by
  unfold isM
  simp only [Bool.and_eq_true, beq_iff_eq]
theorem meant_one {m : Mc} {t : Tk} : meantB [m] (t, []) = if isM m t then some m else none := by
  unfold meantB
  by_cases h : isM m t = true
  · rw [if_pos h]
    obtain ⟨h1, h2⟩ := isM_iff.1 h
    simp [h1, h2]
  · rw [if_neg h]
    split
    · rfl
    · rename_i hc
      simp only [Bool.or_eq_true, bne_iff_ne, ne_eq, not_or, Classical.not_not] at hc
      rw [List.find?_eq_none]
      intro x hx hn
      simp only [List.mem_singleton] at hx
      subst hx
      exact h (isM_iff.2 ⟨hc.1, (beq_iff_eq.1 hn).symm⟩)
theorem meant_own {m : Mc} {b : Tk} : meantB [m] (b, [m.name]) = none := by
  unfold meantB
  split
  · rfl
  · rename_i hc
    simp only [Bool.or_eq_true, bne_iff_ne, ne_eq, not_or, Classical.not_not] at hc
    rw [List.find?_eq_none]
    intro x hx hn
    simp only [List.mem_singleton] at hx
    subst hx
    apply hc.2
    have : x.name = b.2 := beq_iff_eq.1 hn
    simp [this]
theorem repl_one {fs : List Fl} {m : Mc} {body : List Tk} (hp : m.params = []) (hb : bodyB fs m.body = (body, 0)) (P : List Wd) (t : Tk) (R : List Wd) :
    replG fs m (P ++ (t, []) :: R) P.length = if decide (((P ++ (body.map (fun b => (b, [m.name])) ++ R)).length : Int) > 256) then ([], 10) else (P ++ (body.map (fun b => (b, [m.name])) ++ R), 0) := by
  have hd : (P ++ (t, []) :: R).drop (P.length + 1) = R := by
    rw [List.drop_append, List.drop_eq_nil_of_le (by omega)]
    simp
  have hA : argsE m R = (([], R), 0) := by
    unfold argsE
    rw [hp]
    rfl
  have hg : (P ++ (t, []) :: R).getD P.length ((0, []), []) = ((t, []) : Wd) := by
    rw [List.getD_eq_getElem?_getD, List.getElem?_append_right (Nat.le_refl _)]
    simp
  have hs : ∀ b : Tk, substG m [] [m.name] b = [(b, [m.name])] := fun b => by
    have ha : atG m b = none := by
      unfold atG
      rw [hp]
      split <;> rfl
    unfold substG
    rw [ha]
  have hN : nowG m (P ++ (t, []) :: R) P.length [] R body = P ++ (body.map (fun b => (b, [m.name])) ++ R) := by
    unfold nowG
    rw [hg, List.take_left]
    show P ++ (body.flatMap (substG m [] [m.name]) ++ R) = _
    rw [show body.flatMap (substG m [] [m.name]) = body.map (fun b => (b, [m.name])) by
      rw [List.map_eq_flatMap]
      exact congrArg (fun f => body.flatMap f) (funext hs)]
  unfold replG
  rw [hd, hA, hb]
  dsimp only
  rw [hN]
  rfl
theorem loop_sim {fs : List Fl} {m : Mc} {body : List Tk} (hp : m.params = []) (hb : bodyB fs m.body = (body, 0)) : ∀ (r : List Tk) (P : List Wd) (k : Nat) (rd : List Sp), (∀ w ∈ P, meantB [m] w = none) → r.length ≤ k →
    loopG fs [m] k (P ++ w0 r) rd = if overG m body.length P.length r then (([], []), 10) else ((P ++ r.flatMap (simW m body), rd ++ List.replicate (r.countP (isM m)) m.body), 0)
  | [], P, k, rd, hP, hk => by
    rw [loopG_eq, findG_none.2 (by simpa [w0] using hP)]
    simp [w0, overG]
  | t :: r, P, k, rd, hP, hk => by
    rw [overG]
    by_cases h : isM m t = true
    · rw [if_pos h]
      have hw : P ++ w0 (t :: r) = P ++ (t, []) :: w0 r := rfl
      have hf : findG [m] (P ++ (t, []) :: w0 r) = some (P.length, m) := by
        refine findG_at (by simp) ?_ ?_
        · rw [List.take_left]; exact hP
        · rw [List.getElem_append_right (Nat.le_refl _)]
          simp only [Nat.sub_self, List.getElem_cons_zero]
          rw [meant_one, if_pos h]
      obtain ⟨k, rfl⟩ : ∃ k', k = k' + 1 := ⟨k - 1, by simp at hk; omega⟩
      rw [hw, loopG_eq, hf]
      dsimp only
      rw [repl_one hp hb]
      have hl : (P ++ (body.map (fun b => ((b, [m.name]) : Wd)) ++ w0 r)).length = P.length + body.length + r.length := by
        simp [w0]; omega
      have hl2 : decide (((P ++ (body.map (fun b => ((b, [m.name]) : Wd)) ++ w0 r)).length : Int) > 256) = decide (P.length + body.length + r.length > 256) := by
        rw [hl]
        exact decide_eq_decide.2 (by omega)
      rw [hl2]
      by_cases hbig : P.length + body.length + r.length > 256
      · rw [decide_eq_true hbig]
        rfl
      · rw [decide_eq_false hbig]
        simp only [Bool.false_eq_true, if_false, beq_self_eq_true, if_true, Bool.false_or]
        have ih := loop_sim hp hb r (P ++ body.map fun b => (b, [m.name])) k (rd ++ [m.body]) (fun w hw => by
          rcases List.mem_append.1 hw with hw | hw
          · exact hP w hw
          · obtain ⟨b, _, rfl⟩ := List.mem_map.1 hw
            exact meant_own) (by simp at hk; omega)
        rw [List.append_assoc] at ih
        rw [ih, List.length_append, List.length_map]
        have hfm : (t :: r).flatMap (simW m body) = body.map (fun b => (b, [m.name])) ++ r.flatMap (simW m body) := by
          rw [List.flatMap_cons]
          unfold simW
          rw [if_pos h]
        rw [hfm, List.countP_cons_of_pos h, List.replicate_succ]
        simp only [List.append_assoc, List.singleton_append]
    · rw [if_neg h]
      have hw : P ++ w0 (t :: r) = (P ++ [(t, [])]) ++ w0 r := by
        rw [List.append_assoc]; rfl
      have ih := loop_sim hp hb r (P ++ [(t, [])]) k rd (fun w hw => by
        rcases List.mem_append.1 hw with hw | hw
        · exact hP w hw
        · simp only [List.mem_singleton] at hw
          subst hw
          rw [meant_one, if_neg h]) (by simp at hk; omega)
      rw [hw, ih, List.length_append]
      have hfm : (t :: r).flatMap (simW m body) = (t, []) :: r.flatMap (simW m body) := by
        rw [List.flatMap_cons]
        unfold simW
        rw [if_neg h]
        rfl
      rw [hfm, List.countP_cons_of_neg h, List.append_assoc]
      rfl
theorem simW_T {m : Mc} {body : List Tk} (l : List Tk) : (l.flatMap (simW m body)).map (·.1) = l.flatMap (simT m body) := by
  rw [List.map_flatMap]
  refine congrArg (fun f => l.flatMap f) (funext fun t => ?_)
  unfold simW simT
  split
  · rw [List.map_map]
    exact List.map_id _
  · rfl
theorem line_sim {fs : List Fl} {m : Mc} {body : List Tk} {l : List Tk} (hp : m.params = []) (hb : bodyB fs m.body = (body, 0)) (hv : allV l = true) :
    lineG fs [m] l = if overG m body.length 0 l then (([], []), 10) else ((l.flatMap (simT m body), setG (List.replicate (l.countP (isM m)) m.body)), 0) := by
  unfold allV at hv
  simp only [Bool.and_eq_true, decide_eq_true_eq] at hv
  rw [lineG_eq, if_neg (by simp only [decide_eq_true_eq]; omega), if_pos hv.1]
  have h := loop_sim hp hb l [] 256 [] (fun w hw => by cases hw) (by omega)
  simp only [List.nil_append, List.length_nil] at h
  rw [h]
  split
  · rfl
  · dsimp only
    rw [simW_T]
theorem addN_self {s : Sp} (h : s.2.1 < s.2.2) : addN s [s] = [s] := by
  have ht : tch s s = true := (tch_iff s s).2 ⟨rfl, by omega, by omega⟩
  rw [addN, if_pos ht, addN]
  unfold mrg
  simp only [Int.min_self, Int.max_self]
theorem setG_rep {s : Sp} : ∀ n : Nat, setG (List.replicate n s) = if full s && decide (n > 0) then [s] else []
  | 0 => by simp [setG]
  | n + 1 => by
    rw [List.replicate_succ', setG_snoc, setG_rep n]
    by_cases h : full s = true
    · have h1 : s.2.1 < s.2.2 := by simpa [full] using h
      rw [h]
      by_cases hn : n > 0
      · simp only [hn, decide_true, Bool.and_self, if_true, Nat.zero_lt_succ, gt_iff_lt]
        exact addN_self h1
      · simp only [hn, decide_false, Bool.and_false, Bool.false_eq_true, if_false, if_true, gt_iff_lt, Nat.zero_lt_succ, decide_true, Bool.and_self]
        rfl
    · have h1 : full s = false := by simpa using h
      rw [h1]
      simp
end Go.Ab
namespace Go.Ab
open Go Go.RowKit
section
variable {P : Program} {c : Ctx} {Γ : FuncId → Option CSpec}
theorem awp_regW {ops : Array Oper} {id n k1 m1 m2 m : Nat} {nst nst2 : Bool} (i : Nat) {sl sl1 sl2 sl' : List AV} {tab tab1 tab2 tab' : List (Nat × Obj)} {Q : Exit → List AV → Heap → Prop}
    (hΓ : ∀ f s, Γ f = some s → SpecOK P f s) (h1 : runTill P Γ nst ops n (ops.toList.take i) sl ⟨tab, n⟩ = some (k1, sl1, ⟨tab1, m1⟩))
    (hw : Weak c.base sl1 ⟨tab1, k1⟩ sl2 ⟨tab2, m2⟩) (h2 : runOps P Γ nst2 ops m2 (ops.toList.drop i) sl2 ⟨tab2, m2⟩ = some (sl', ⟨tab', m⟩)) (hQ : Q .normal sl' ⟨tab', m⟩) : awp P c (.region id ops false) Q sl ⟨tab, n⟩ := by
  intro θ w a hs
  refine wp_region_list ?_
  rw [← List.take_append_drop i ops.toList]
  refine runTill_sound hΓ (ops.toList.take i) n k1 sl ⟨tab, n⟩ θ w a sl1 ⟨tab1, m1⟩ h1 hs.st hs.wf (Nat.le_refl _) fun a1 w1 θ1 hs1 hb1 hn1 hkk hk1 hl1 => ?_
  obtain ⟨θ2, hs2, he2⟩ := hw c θ1 w1 a1 rfl ⟨hs1.bump (n := k1) hn1, hb1, Nat.le_trans hs.base hkk⟩
  refine runOps_sound hΓ _ _ _ _ θ2 w1 _ sl' ⟨tab', m⟩ h2 hs2.st hs2.wf (Nat.le_refl _) fun a' w' θ' hs' hb hn hk hl => ?_
  exact ⟨sl', _, θ', hQ, ⟨hs', hb, Nat.le_trans hs2.base hn⟩, hk1.trans hk, ((hl1.trans (HLe.bump (n := k1) hn1)).evo hs.base).trans (he2.trans (hl.evo hs2.base))⟩
end
end Go.Ab
namespace Go.Ab
open Go Go.RowKit
theorem Weak.aggF {b m i n : Nat} {t : List (Nat × AV)} {tab : List (Nat × Obj)} {l : List AV} {ds : List D} (hi : lookV t i = .agg l) (h : ConvL ⟨tab, n⟩ l (ds.map .data)) (ho : ds.all D.one = true) :
    Weak b (frame m t) ⟨tab, n⟩ (frame m ((i, .data (.agg ds)) :: t)) ⟨tab, n⟩ := fun c θ w a hb hs => by
  refine ⟨θ, ⟨⟨hs.st.sim, hs.st.defers, ?_, fun j x v hx hv => ?_⟩, hs.wf, hs.base⟩, Evo.refl _ _ _⟩
  · have := hs.st.size
    rw [frame_len] at this ⊢
    exact this
  · rw [frame_at] at hx
    split at hx
    · rename_i hj
      by_cases hji : j = i
      · subst hji
        simp only [lookV, if_true, Option.some.injEq] at hx
        subst hx
        refine conv_agg hs.st.sim h ho (hs.st.vals j _ v ?_ hv)
        rw [frame_at, if_pos hj, hi]
      · refine hs.st.vals j x v ?_ hv
        rw [frame_at, if_pos hj]
        simpa [lookV, hji] using hx
    · cases hx
end Go.Ab
