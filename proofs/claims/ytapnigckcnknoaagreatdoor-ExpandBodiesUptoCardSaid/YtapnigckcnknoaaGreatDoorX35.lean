/-
  One text of the proof (own work): contracts of functions of the program, by the abstract machine.
-/
import Derived.Test.YtapnigckcnknoaaGreatDoorX19
import Derived.Test.YtapnigckcnknoaaGreatDoorX33
import Derived.Test.YtapnigckcnknoaaGreatDoorX34
set_option linter.unusedVariables false
set_option linter.unusedSimpArgs false
namespace Go.Ab
open Go Go.RowKit Go.Proofs
set_option maxRecDepth 10000
set_option maxHeartbeats 16000000
@[go_sem] theorem eWr_eq (w : Wd) : eWr w = .agg [i64 w.1.1, .str w.1.2, .list (w.2.map .str)] := rfl
@[go_sem] theorem elemsOK_wr (l : List Wd) : elemsOK 3 (l.map eWr) = true := elemsOK_map (f := eWr) (fun _ => ⟨by rfl, by rfl⟩) l
theorem eWr_inj (a b : Wd) (h : eWr a = eWr b) : a = b := by
  obtain ⟨⟨a1, a2⟩, a3⟩ := a
  obtain ⟨⟨b1, b2⟩, b3⟩ := b
  simp only [eWr, D.agg.injEq, List.cons.injEq, D.int.injEq, D.str.injEq, D.list.injEq, and_true, true_and] at h
  obtain ⟨rfl, rfl, h3⟩ := h
  rw [(map_ie str_inj' _ _).mp h3]
theorem eWr_e (a b : Wd) : (eWr a = eWr b) = (a = b) := propext ⟨eWr_inj a b, fun h => by rw [h]⟩
theorem eWr_ie (a b : List Wd) : (a.map eWr = b.map eWr) = (a = b) := map_ie eWr_inj a b
def eWrs (l : List Wd) : D := .list (l.map eWr)
theorem eWrs_inj (a b : List Wd) (h : eWrs a = eWrs b) : a = b := by
  simp only [eWrs, D.list.injEq] at h
  exact (map_ie eWr_inj _ _).mp h
theorem eWrs_ie (a b : List (List Wd)) : (a.map eWrs = b.map eWrs) = (a = b) := map_ie eWrs_inj a b
@[go_sem] theorem elemsOK_wrs (l : List (List Wd)) : elemsOK 1 (l.map eWrs) = true := elemsOK_map (f := eWrs) (fun _ => ⟨by rfl, by rfl⟩) l
noncomputable def g_symR7 : List D → Option D := encSpec (fun x : Wd × Bs => [eWr x.1, .str x.2]) (fun x : Wd × Bs => True) (fun x : Wd × Bs => .bool (isSy x.1 x.2))
theorem g_symR7_eq {w : Wd} {s : Bs} (hd : True) : g_symR7 [eWr w, .str s] = some (.bool (isSy w s)) := encSpec_eq (x := (w, s)) hd fun y hy => by
    obtain ⟨y0, y1⟩ := y; simp only [List.cons.injEq, and_true, true_and, D.str.injEq, D.int.injEq, D.list.injEq, D.bool.injEq, D.agg.injEq, D.clo.injEq, Int.natCast_inj, inj_ie, D.ref.injEq, eU_e, eWr_e, eWr_ie, eWrs_ie, eTk_ie, eTk_e, eFl_ie, eSp_ie, eMc_e, eMc_ie] at hy
    (try obtain ⟨rfl, rfl⟩ := hy)
    (try subst_vars)
    rfl
theorem f_symR7_ok : PureOK Tryz.prog 75 true g_symR7 := by
  have hΓ := Γ0_ok
  refine pure_enc (n := 16) (rs := [.tmp 4]) Tryz.func75 (by kernel_rfl) rfl (by kernel_rfl) (by kernel_rfl) ?_
  rintro ⟨w, s⟩ hd
  (try dsimp only at hd ⊢)
  refine ⟨fun _ => by (repeat (first | exact .int _ _ | exact .bool _ | exact .str _ | (refine .tup _ (fun d hd => ?_); simp only [List.mem_cons, List.not_mem_nil, or_false] at hd; rcases hd with rfl | hd))), fun k hz0 => ?_⟩
  obtain ⟨⟨w1, w2⟩, w3⟩ := w
  rw [eWr_eq]
  unfold isSy
  dsimp only
  rw [start_frame (by simp)]; simp only [enumV, go_sem, emptyH]
  cases k1 : (w1 == 3)
  · repeat (first
    | (apply axJ; (focus ((with_reducible constructor) <;> rfl)))
    | (apply awT mixedOK hΓ (by kernel_rfl); (simp (disch := omega) only [go_sem, ↓reduceIte, dk, ↓lk, Int.reduceBEq, Int.reduceBNe, Bool.true_bne, Bool.false_bne, Bool.not_true, Bool.not_false, k1] <;> with_reducible rfl))
    | ((first | apply awR hΓ | apply awG | apply awH mixedOK hΓ rfl (by kernel_rfl) | apply ovE rfl); (simp (disch := omega) only [go_sem, ↓reduceIte, dk, ↓lk, Int.reduceBEq, Int.reduceBNe, Bool.true_bne, Bool.false_bne, Bool.not_true, Bool.not_false, k1] <;> with_reducible rfl); exact trivial)
    | rfl)
    try rfl
  cases k2 : (w2 == s)
  · repeat (first
    | (apply axJ; (focus ((with_reducible constructor) <;> rfl)))
    | (apply awT mixedOK hΓ (by kernel_rfl); (simp (disch := omega) only [go_sem, ↓reduceIte, dk, ↓lk, Int.reduceBEq, Int.reduceBNe, Bool.true_bne, Bool.false_bne, Bool.not_true, Bool.not_false, k1, k2] <;> with_reducible rfl))
    | ((first | apply awR hΓ | apply awG | apply awH mixedOK hΓ rfl (by kernel_rfl) | apply ovE rfl); (simp (disch := omega) only [go_sem, ↓reduceIte, dk, ↓lk, Int.reduceBEq, Int.reduceBNe, Bool.true_bne, Bool.false_bne, Bool.not_true, Bool.not_false, k1, k2] <;> with_reducible rfl); exact trivial)
    | rfl)
    try rfl
  · repeat (first
    | (apply axJ; (focus ((with_reducible constructor) <;> rfl)))
    | (apply awT mixedOK hΓ (by kernel_rfl); (simp (disch := omega) only [go_sem, ↓reduceIte, dk, ↓lk, Int.reduceBEq, Int.reduceBNe, Bool.true_bne, Bool.false_bne, Bool.not_true, Bool.not_false, k1, k2] <;> with_reducible rfl))
    | ((first | apply awR hΓ | apply awG | apply awH mixedOK hΓ rfl (by kernel_rfl) | apply ovE rfl); (simp (disch := omega) only [go_sem, ↓reduceIte, dk, ↓lk, Int.reduceBEq, Int.reduceBNe, Bool.true_bne, Bool.false_bne, Bool.not_true, Bool.not_false, k1, k2] <;> with_reducible rfl); exact trivial)
    | rfl)
    try rfl
theorem both_len : ∀ (b a : List Bs), (bothB a b).length ≤ a.length + b.length
  | [], a => Nat.le_refl _
  | x :: b, a => by
    unfold bothB
    rw [List.foldl_cons]
    split
    · have := both_len b a
      unfold bothB at this
      rw [List.length_cons]
      omega
    · have := both_len b (a ++ [x])
      unfold bothB at this
      rw [List.length_append] at this
      simp only [List.length_cons, List.length_nil] at this ⊢
      omega
theorem hasB_con (l : List Bs) (s : Bs) : hasB l s = l.contains s := by
  rw [Bool.eq_iff_iff, hasB_iff, List.contains_iff_mem]
theorem both_take {a b : List Bs} {i : Nat} (hi : i < b.length) : bothB a (b.take (i + 1)) = if (bothB a (b.take i)).contains b[i] then bothB a (b.take i) else bothB a (b.take i) ++ [b[i]] := by
  unfold bothB
  rw [List.take_add_one, List.getElem?_eq_getElem hi, List.foldl_append]
  rfl
noncomputable def g_bothR : List D → Option D := encSpec (fun x : (List Bs) × (List Bs) => [.list (x.1.map .str), .list (x.2.map .str)]) (fun x : (List Bs) × (List Bs) => x.1.length ≤ 1000000000 ∧ x.2.length ≤ 1000000000) (fun x : (List Bs) × (List Bs) => .list ((bothB x.1 x.2).map .str))
theorem g_bothR_eq {a : List Bs} {b : List Bs} (hd : a.length ≤ 1000000000 ∧ b.length ≤ 1000000000) : g_bothR [.list (a.map .str), .list (b.map .str)] = some (.list ((bothB a b).map .str)) := encSpec_eq (x := (a, b)) hd fun y hy => by
    obtain ⟨y0, y1⟩ := y; simp only [List.cons.injEq, and_true, true_and, D.str.injEq, D.int.injEq, D.list.injEq, D.bool.injEq, D.agg.injEq, D.clo.injEq, Int.natCast_inj, inj_ie, D.ref.injEq, eU_e, eWr_e, eWr_ie, eWrs_ie, eTk_ie, eTk_e, eFl_ie, eSp_ie, eMc_e, eMc_ie] at hy
    (try obtain ⟨rfl, rfl⟩ := hy)
    (try subst_vars)
    rfl
theorem f_bothR_ok : PureOK Tryz.prog 46 false g_bothR := by
  have hΓ := Γp f_has_ok (Γn)
  refine pure_enc (n := 27) (rs := [.tmp 4]) Tryz.func46 (by kernel_rfl) rfl (by kernel_rfl) (by kernel_rfl) ?_
  rintro ⟨a, b⟩ hd
  (try dsimp only at hd ⊢)
  refine ⟨fun h => (by cases h), fun k hz0 => ?_⟩
  obtain ⟨d1, d2⟩ := hd
  rw [start_frame (by simp)]; simp only [enumV, go_sem, emptyH]
  repeat (first
    | (apply axJ; (focus ((with_reducible constructor) <;> rfl)))
    | (apply awT mixedOK hΓ (by kernel_rfl); (simp (disch := omega) only [go_sem, ↓reduceIte, dk, ↓lk, Int.reduceBEq, Int.reduceBNe, Bool.true_bne, Bool.false_bne, Bool.not_true, Bool.not_false] <;> with_reducible rfl))
    | ((first | apply awR hΓ | apply awG | apply awH mixedOK hΓ rfl (by kernel_rfl) | apply ovE rfl); (simp (disch := omega) only [go_sem, ↓reduceIte, dk, ↓lk, Int.reduceBEq, Int.reduceBNe, Bool.true_bne, Bool.false_bne, Bool.not_true, Bool.not_false] <;> with_reducible rfl); exact trivial)
    | rfl)
  refine awp_loop_at (X := Nat) (fun i => (frame 27 [(5, .row 1 (bothB a (b.take i)).length), (11, .data (.list (b.map .str))), (12, .data (i64 b.length)), (13, .data (i64 i))])) (fun i => [(1, .row 9 1 ((bothB a (b.take i)).map .str))]) 8
    (fun i => i ≤ b.length) (fun i => b.length - i) 0 (Nat.zero_le _) (Weak.v (by (simp [ConvF, lookV, Conv, ints, List.take_zero, bothB, List.foldl_nil]; done)) (by (simp (disch := omega) only [TabSub, look, if_pos, if_neg, Obj.refsOK, refsOKs, AV.refsOK, decide_eq_true_eq, Bool.and_true, Bool.and_self, List.take_zero, bothB, List.foldl_nil] ) <;> ((repeat' apply And.intro) <;> first | exact True.intro | omega | (simp; done) | rfl))) ?_
  rintro i hi
  (try dsimp only at hi ⊢)
  by_cases hi2 : i < b.length
  · have ht := both_take (a := a) hi2
    have hl := both_len (b.take i) a
    rw [List.length_take] at hl
    have e1 := g_has_eq (l := bothB a (b.take i)) (s := b[i]) (by omega)
    rw [hasB_con] at e1
    generalize bothB a (b.take i) = A at *
    generalize hy : b[i] = y at *
    cases hc : A.contains y
    · rw [hc] at e1 ht
      simp only [Bool.false_eq_true, if_false] at ht
      repeat (first
        | (apply axJ; (focus ((with_reducible constructor) <;> rfl)))
        | (apply awT mixedOK hΓ (by kernel_rfl); (simp (disch := omega) only [go_sem, ↓reduceIte, dk, ↓lk, Int.reduceBEq, Int.reduceBNe, Bool.true_bne, Bool.false_bne, Bool.not_true, Bool.not_false, hy, e1] <;> with_reducible rfl))
        | ((first | apply awR hΓ | apply awG | apply awH mixedOK hΓ rfl (by kernel_rfl) | apply ovE rfl); (simp (disch := omega) only [go_sem, ↓reduceIte, dk, ↓lk, Int.reduceBEq, Int.reduceBNe, Bool.true_bne, Bool.false_bne, Bool.not_true, Bool.not_false, hy, e1] <;> with_reducible rfl); exact trivial)
        | rfl)
      exact ⟨i + 1, by omega, by omega, by rw [ht]; exact Weak.v (by (simp [ConvF, lookV, Conv, ints, List.map_append, List.length_append]; done)) (by (simp (disch := omega) only [TabSub, look, if_pos, if_neg, Obj.refsOK, refsOKs, AV.refsOK, decide_eq_true_eq, Bool.and_true, Bool.and_self, List.map_append, List.length_append] ) <;> ((repeat' apply And.intro) <;> first | exact True.intro | omega | (simp; done) | rfl))⟩
    · rw [hc] at e1 ht
      simp only [if_true] at ht
      repeat (first
        | (apply axJ; (focus ((with_reducible constructor) <;> rfl)))
        | (apply awT mixedOK hΓ (by kernel_rfl); (simp (disch := omega) only [go_sem, ↓reduceIte, dk, ↓lk, Int.reduceBEq, Int.reduceBNe, Bool.true_bne, Bool.false_bne, Bool.not_true, Bool.not_false, hy, e1] <;> with_reducible rfl))
        | ((first | apply awR hΓ | apply awG | apply awH mixedOK hΓ rfl (by kernel_rfl) | apply ovE rfl); (simp (disch := omega) only [go_sem, ↓reduceIte, dk, ↓lk, Int.reduceBEq, Int.reduceBNe, Bool.true_bne, Bool.false_bne, Bool.not_true, Bool.not_false, hy, e1] <;> with_reducible rfl); exact trivial)
        | rfl)
      exact ⟨i + 1, by omega, by omega, by rw [ht]; exact Weak.w⟩
  have hi3 : i = b.length := by omega
  subst hi3
  rw [List.take_length]
  repeat (first
    | (apply axJ; (focus ((with_reducible constructor) <;> rfl)))
    | (apply awT mixedOK hΓ (by kernel_rfl); (simp (disch := omega) only [go_sem, ↓reduceIte, dk, ↓lk, Int.reduceBEq, Int.reduceBNe, Bool.true_bne, Bool.false_bne, Bool.not_true, Bool.not_false] <;> with_reducible rfl))
    | ((first | apply awR hΓ | apply awG | apply awH mixedOK hΓ rfl (by kernel_rfl) | apply ovE rfl); (simp (disch := omega) only [go_sem, ↓reduceIte, dk, ↓lk, Int.reduceBEq, Int.reduceBNe, Bool.true_bne, Bool.false_bne, Bool.not_true, Bool.not_false] <;> with_reducible rfl); exact trivial)
    | rfl)
  try rfl
def mcZ : Mc := ⟨[], [], ([], 0, 0)⟩
def eMt : Option Mc → D
  | some m => .tup [eMc m, .bool true]
  | none => .tup [eMc mcZ, .bool false]
theorem find_drop {α : Type} {p : α → Bool} {l : List α} {i : Nat} (hi : i < l.length) (h : l.find? p = (l.drop i).find? p) : l.find? p = if p l[i] then some l[i] else (l.drop (i + 1)).find? p := by
  rw [h, List.drop_eq_getElem_cons hi, List.find?_cons]
  cases p l[i] <;> rfl
noncomputable def g_meantR : List D → Option D := encSpec (fun x : (List Mc) × Wd => [eU x.1, eWr x.2]) (fun x : (List Mc) × Wd => x.1.length ≤ 1099511627776 ∧ x.2.2.length ≤ 1099511627776) (fun x : (List Mc) × Wd => eMt (meantB x.1 x.2))
theorem g_meantR_eq {us : List Mc} {w : Wd} (hd : us.length ≤ 1099511627776 ∧ w.2.length ≤ 1099511627776) : g_meantR [eU us, eWr w] = some (eMt (meantB us w)) := encSpec_eq (x := (us, w)) hd fun y hy => by
    obtain ⟨y0, y1⟩ := y; simp only [List.cons.injEq, and_true, true_and, D.str.injEq, D.int.injEq, D.list.injEq, D.bool.injEq, D.agg.injEq, D.clo.injEq, Int.natCast_inj, inj_ie, D.ref.injEq, eU_e, eWr_e, eWr_ie, eWrs_ie, eTk_ie, eTk_e, eFl_ie, eSp_ie, eMc_e, eMc_ie] at hy
    (try obtain ⟨rfl, rfl⟩ := hy)
    (try subst_vars)
    rfl
theorem f_meantR_ok : PureOK Tryz.prog 43 false g_meantR := by
  have hΓ := Γp f_has_ok (Γn)
  refine pure_enc (n := 37) (rs := [.cell 4 28, .tmp 5]) Tryz.func43 (by kernel_rfl) rfl (by kernel_rfl) (by kernel_rfl) ?_
  rintro ⟨us, w⟩ hd
  (try dsimp only at hd ⊢)
  refine ⟨fun h => (by cases h), fun k hz0 => ?_⟩
  obtain ⟨⟨w1, w2⟩, w3⟩ := w
  obtain ⟨d1, d2⟩ := hd
  dsimp only at d2
  rw [eWr_eq, eU_eq]
  unfold meantB
  dsimp only
  have e1 := g_has_eq (l := w3) (s := w2) d2
  rw [hasB_con] at e1
  rw [start_frame (by simp)]; simp only [enumV, go_sem, emptyH]
  cases k1 : (w1 != 1)
  case true =>
    simp only [Bool.true_or, if_true]
    repeat (first
      | (apply axJ; (focus ((with_reducible constructor) <;> rfl)))
      | (apply awT mixedOK hΓ (by kernel_rfl); (simp (disch := omega) only [go_sem, ↓reduceIte, dk, ↓lk, Int.reduceBEq, Int.reduceBNe, Bool.true_bne, Bool.false_bne, Bool.not_true, Bool.not_false, ↓ty_build28, k1] <;> with_reducible rfl))
      | ((first | apply awR hΓ | apply awG | apply awH mixedOK hΓ rfl (by kernel_rfl) | apply ovE rfl); (simp (disch := omega) only [go_sem, ↓reduceIte, dk, ↓lk, Int.reduceBEq, Int.reduceBNe, Bool.true_bne, Bool.false_bne, Bool.not_true, Bool.not_false, ↓ty_build28, k1] <;> with_reducible rfl); exact trivial)
      | rfl)
    try rfl
  cases k2 : w3.contains w2
  case true =>
    rw [k2] at e1
    simp only [Bool.or_true, if_true]
    repeat (first
      | (apply axJ; (focus ((with_reducible constructor) <;> rfl)))
      | (apply awT mixedOK hΓ (by kernel_rfl); (simp (disch := omega) only [go_sem, ↓reduceIte, dk, ↓lk, Int.reduceBEq, Int.reduceBNe, Bool.true_bne, Bool.false_bne, Bool.not_true, Bool.not_false, ↓ty_build28, k1, e1] <;> with_reducible rfl))
      | ((first | apply awR hΓ | apply awG | apply awH mixedOK hΓ rfl (by kernel_rfl) | apply ovE rfl); (simp (disch := omega) only [go_sem, ↓reduceIte, dk, ↓lk, Int.reduceBEq, Int.reduceBNe, Bool.true_bne, Bool.false_bne, Bool.not_true, Bool.not_false, ↓ty_build28, k1, e1] <;> with_reducible rfl); exact trivial)
      | rfl)
    try rfl
  rw [k2] at e1
  simp only [Bool.or_self, Bool.false_eq_true, if_false]
  repeat (first
    | (apply axJ; (focus ((with_reducible constructor) <;> rfl)))
    | (apply awT mixedOK hΓ (by kernel_rfl); (simp (disch := omega) only [go_sem, ↓reduceIte, dk, ↓lk, Int.reduceBEq, Int.reduceBNe, Bool.true_bne, Bool.false_bne, Bool.not_true, Bool.not_false, k1, e1] <;> with_reducible rfl))
    | ((first | apply awR hΓ | apply awG | apply awH mixedOK hΓ rfl (by kernel_rfl) | apply ovE rfl); (simp (disch := omega) only [go_sem, ↓reduceIte, dk, ↓lk, Int.reduceBEq, Int.reduceBNe, Bool.true_bne, Bool.false_bne, Bool.not_true, Bool.not_false, k1, e1] <;> with_reducible rfl); exact trivial)
    | rfl)
  refine awp_loop_at (X := Nat) (fun i => (frame 37 [(3, .ptr 1 0), (4, .ptr 2 0), (22, .data (.list (us.map eMc))), (23, .data (i64 us.length)), (24, .data (i64 i))])) (fun _ => [(1, .box [.data (i64 w1), .data (.str w2), .data (.list (w3.map .str))]), (2, .box [.data (.str []), .nils, .data (.str []), .data (i64 0), .data (i64 0)])]) 8
    (fun i => i ≤ us.length ∧ us.find? (fun m => m.name == w2) = (us.drop i).find? (fun m => m.name == w2)) (fun i => us.length - i) 0 ⟨Nat.zero_le _, rfl⟩ (Weak.w) ?_
  rintro i ⟨hi, hpre⟩
  (try dsimp only at hi hpre ⊢)
  by_cases hi2 : i < us.length
  · have hfd := find_drop hi2 hpre
    rw [hpre]
    rw [hpre] at hfd
    generalize hy : us[i] = y at *
    obtain ⟨y1, y2, y3, y4, y5⟩ := y
    dsimp only at hfd
    cases k3 : (y1 == w2)
    · rw [k3] at hfd
      simp only [Bool.false_eq_true, if_false] at hfd
      repeat (first
        | (apply axJ; (focus ((with_reducible constructor) <;> rfl)))
        | (apply awT mixedOK hΓ (by kernel_rfl); (simp (disch := omega) only [go_sem, ↓reduceIte, dk, ↓lk, Int.reduceBEq, Int.reduceBNe, Bool.true_bne, Bool.false_bne, Bool.not_true, Bool.not_false, hy, k3] <;> with_reducible rfl))
        | ((first | apply awR hΓ | apply awG | apply awH mixedOK hΓ rfl (by kernel_rfl) | apply ovE rfl); (simp (disch := omega) only [go_sem, ↓reduceIte, dk, ↓lk, Int.reduceBEq, Int.reduceBNe, Bool.true_bne, Bool.false_bne, Bool.not_true, Bool.not_false, hy, k3] <;> with_reducible rfl); exact trivial)
        | rfl)
      exact ⟨i + 1, ⟨by omega, hfd⟩, by omega, Weak.w⟩
    · rw [k3] at hfd
      simp only [if_true] at hfd
      rw [hfd]
      repeat (first
        | (apply axJ; (focus ((with_reducible constructor) <;> rfl)))
        | (apply awT mixedOK hΓ (by kernel_rfl); (simp (disch := omega) only [go_sem, ↓reduceIte, dk, ↓lk, Int.reduceBEq, Int.reduceBNe, Bool.true_bne, Bool.false_bne, Bool.not_true, Bool.not_false, hy, k3] <;> with_reducible rfl))
        | ((first | apply awR hΓ | apply awG | apply awH mixedOK hΓ rfl (by kernel_rfl) | apply ovE rfl); (simp (disch := omega) only [go_sem, ↓reduceIte, dk, ↓lk, Int.reduceBEq, Int.reduceBNe, Bool.true_bne, Bool.false_bne, Bool.not_true, Bool.not_false, hy, k3] <;> with_reducible rfl); exact trivial)
        | rfl)
      try rfl
  have hi3 : i = us.length := by omega
  subst hi3
  rw [List.drop_length] at hpre
  rw [hpre]
  repeat (first
    | (apply axJ; (focus ((with_reducible constructor) <;> rfl)))
    | (apply awT mixedOK hΓ (by kernel_rfl); (simp (disch := omega) only [go_sem, ↓reduceIte, dk, ↓lk, Int.reduceBEq, Int.reduceBNe, Bool.true_bne, Bool.false_bne, Bool.not_true, Bool.not_false, ↓ty_build28] <;> with_reducible rfl))
    | ((first | apply awR hΓ | apply awG | apply awH mixedOK hΓ rfl (by kernel_rfl) | apply ovE rfl); (simp (disch := omega) only [go_sem, ↓reduceIte, dk, ↓lk, Int.reduceBEq, Int.reduceBNe, Bool.true_bne, Bool.false_bne, Bool.not_true, Bool.not_false, ↓ty_build28] <;> with_reducible rfl); exact trivial)
    | rfl)
  try rfl
end Go.Ab
