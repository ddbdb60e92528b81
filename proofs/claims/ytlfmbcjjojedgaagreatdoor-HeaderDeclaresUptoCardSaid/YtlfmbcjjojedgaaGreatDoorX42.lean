/-
  One text of the proof (own work): contracts of functions of the program, by the abstract machine.
-/
import Derived.Test.YtlfmbcjjojedgaaGreatDoorX19
import Derived.Test.YtlfmbcjjojedgaaGreatDoorX40
set_option linter.unusedVariables false
set_option linter.unusedSimpArgs false
namespace Go.Ab
open Go Go.RowKit Go.Proofs
set_option maxRecDepth 10000
set_option maxHeartbeats 16000000
noncomputable def g_declC36 : List D → Option D := encSpec (fun x : LX × LX => [eX x.1, rX x.2]) (fun x : LX × LX => x.2.Bd 1099511627776 ∧ x.1.Bd 1099511627776) (fun x : LX × LX => .bool (eqX x.1 x.2))
theorem g_declC36_eq {b : LX} {a : LX} (hd : a.Bd 1099511627776 ∧ b.Bd 1099511627776) : g_declC36 [.agg [.int .i64 b.kind, .str b.name, .str b.exc, .list (b.kids.map eX)], rX a] = some (.bool (eqX b a)) := by
  have e : g_declC36 [eX b, rX a] = some (.bool (eqX b a)) := encSpec_eq (x := (b, a)) hd fun y hy => by
    obtain ⟨y0, y1⟩ := y; simp only [List.cons.injEq, and_true, true_and, D.str.injEq, D.int.injEq, D.list.injEq, D.bool.injEq, D.agg.injEq, D.clo.injEq, Int.natCast_inj, inj_ie, lx_ie, rX_e] at hy
    (try obtain ⟨rfl, rfl⟩ := hy)
    (try subst_vars)
    rfl
  exact (congrArg (g_declC36) (by rw [← eX_eq b])).trans e
theorem f_declC36_ok : PureOK Tryz.prog 33 true g_declC36 := by
  have hΓ := Γp (f_equalP_ok 1099511627776) (Γn)
  refine pure_enc (n := 7) (rs := [.tmp 3]) Tryz.func33 (by kernel_rfl) rfl (by kernel_rfl) (by kernel_rfl) ?_
  rintro ⟨b, a⟩ hd
  (try dsimp only at hd ⊢)
  refine ⟨fun _ => by (repeat (first | exact .int _ _ | exact .bool _ | exact .str _ | (refine .tup _ (fun d hd => ?_); simp only [List.mem_cons, List.not_mem_nil, or_false] at hd; rcases hd with rfl | hd))), fun k hz0 => ?_⟩
  obtain ⟨hx, hy⟩ := hd
  have e1 := g_equalP_eq (h := 1099511627776) (a := b) (b := a) ⟨Nat.le_trans b.hgt_le hy.z, hy, hx⟩
  unfold rX
  rw [eX_eq]
  rw [start_frame (by simp)]; simp only [enumV, go_sem, emptyH]
  repeat (first
    | (apply axJ; (focus ((with_reducible constructor) <;> rfl)))
    | (apply awT mixedOK hΓ (by kernel_rfl); (simp (disch := omega) only [go_sem, ↓reduceIte, dk, ↓lk, e1] <;> with_reducible rfl))
    | ((first | apply awR hΓ | apply awG | apply awH mixedOK hΓ rfl (by kernel_rfl) | apply ovE rfl); (simp (disch := omega) only [go_sem, ↓reduceIte, dk, ↓lk, e1] <;> with_reducible rfl); exact trivial)
    | rfl)
  try rfl
noncomputable def g_anyD36 : List D → Option D := encSpec (fun y : List LX × LX => [.list (y.1.map eX), .clo 33 [rX y.2]]) (fun y => (y.1.length ≤ 1099511627776 ∧ ∀ x ∈ y.1, x.Bd 1099511627776) ∧ y.2.Bd 1099511627776) (fun y => .bool (y.1.any (fun z => eqX z y.2)))
theorem f_anyD36_ok : PureOK Tryz.prog 32 true g_anyD36 := by
  refine pure_union (X := {x : LX // x.Bd 1099511627776}) (G := fun x => gAnyD eX (fun y => y.Bd 1099511627776) 33 [rX x.1] (fun z => eqX z x.1)) (fun x => f_anyX_ok f_declC36_ok fun y hy => ?_) fun ds d hd => ?_
  · have := g_declC36_eq (b := y) (a := x.1) ⟨x.2, hy⟩
    rw [eX_eq]
    exact this
  · obtain ⟨⟨l, x⟩, rfl, ⟨h1, h2⟩, rfl⟩ := encSpec_some hd
    exact ⟨⟨x, h2⟩, gAnyD_eq eX_inj h1.1 h1.2⟩
theorem g_anyD36_eq {l : List LX} {x : LX} (h1 : l.length ≤ 1099511627776) (h2 : ∀ y ∈ l, y.Bd 1099511627776) (h3 : x.Bd 1099511627776) : g_anyD36 [.list (l.map eX), .clo 33 [.ref [.int .i64 x.kind, .str x.name, .str x.exc, .list (x.kids.map eX)]]] = some (.bool (l.any (eqX x))) := by
  have : l.any (eqX x) = l.any (fun z => eqX z x) := by
    congr 1
    funext z
    exact eqX_comm x z
  rw [this]
  refine encSpec_eq (x := (l, x)) ⟨⟨h1, h2⟩, h3⟩ fun y hy => ?_
  obtain ⟨y1, y2⟩ := y
  simp only [List.cons.injEq, and_true, D.list.injEq, D.clo.injEq, true_and] at hy
  obtain ⟨e1, e2⟩ := hy
  rw [(eXs_ie _ _).mp e1, rX_inj _ _ e2]
theorem many_len : ∀ l : List LX, (∀ x ∈ l, isT (textX x) = true) → (manyS l).length ≤ 300 * l.length
  | [], _ => Nat.le_refl _
  | x :: l, h => by
    have ih := many_len l fun y hy => h y (by simp [hy])
    obtain ⟨_, h2, _, _⟩ := isT_trim (h x (by simp))
    show ((lineB 0 (textX x) ++ [10]) ++ manyS l).length ≤ _
    have h3 : (lineB 0 (textX x)).length ≤ (textX x).length + 13 := by
      unfold lineB wordH
      simp [kLic]
    rw [List.length_append, List.length_append, List.length_cons, List.length_nil, List.length_cons]
    omega
theorem many_take {l : List LX} {i : Nat} (hi : i < l.length) : manyS (l.take (i + 1)) = manyS (l.take i) ++ (lineB 0 (textX l[i]) ++ [10]) := by
  unfold manyS
  rw [List.take_add_one, List.getElem?_eq_getElem hi, List.flatMap_append]
  simp
theorem kids_take {l : List LX} {i : Nat} (hi : i < l.length) : (l.take (i + 1)).foldl kidStep [] = kidStep ((l.take i).foldl kidStep []) l[i] := by
  rw [List.take_add_one, List.getElem?_eq_getElem hi, List.foldl_append]
  rfl
theorem kids_inv {p : LX → Prop} {l : List LX} (h : ∀ x ∈ l, p x) : ∀ i, i ≤ l.length → (∀ k ∈ (l.take i).foldl kidStep [], p k) ∧ ((l.take i).foldl kidStep []).length ≤ i
  | 0, _ => ⟨fun k (hk : k ∈ ([] : List LX)) => (by cases hk), Nat.le_refl _⟩
  | i + 1, hi => by
    obtain ⟨h1, h2⟩ := kids_inv h i (by omega)
    rw [kids_take (by omega)]
    have := kid_len ((l.take i).foldl kidStep []) l[i]
    exact ⟨kid_ok h1 (h _ (List.getElem_mem _)), by omega⟩
theorem all_take {p : LX → Prop} {l : List LX} {i : Nat} (hi : i < l.length) (h : ∀ x ∈ l.take i, p x) (hp : p l[i]) : ∀ x ∈ l.take (i + 1), p x := by
  rw [List.take_add_one, List.getElem?_eq_getElem hi]
  intro x hx
  rcases List.mem_append.1 hx with hx | hx
  · exact h x hx
  · simp at hx; rw [hx]; exact hp
noncomputable def g_law36e : List D → Option D := encSpec (fun x : (List LX) => [.list (x.map eX)]) (fun x : (List LX) => x.length ≤ 1099511627776 ∧ ∀ z ∈ x, LX.Bd 1099511627776 z) (fun x : (List LX) => .bool true)
theorem f_law36e_ok : PureOK Tryz.prog 7 true g_law36e := by
  have hΓ := Γp f_wk36_ok (Γp f_few_ok (Γp f_sizeP_ok (Γp f_fmtP_ok (Γp f_writeP_ok (Γp f_anyD36_ok (Γo f_scan_ok (Γp f_declP_ok (Γp f_checkP_ok (Γp (f_equalP_ok 1099511627776) (Γn))))))))))
  refine pure_enc (n := 112) (rs := [.tmp 2]) Tryz.func7 (by kernel_rfl) rfl (by kernel_rfl) (by kernel_rfl) ?_
  rintro l hd
  (try dsimp only at hd ⊢)
  refine ⟨fun _ => by (repeat (first | exact .int _ _ | exact .bool _ | exact .str _ | (refine .tup _ (fun d hd => ?_); simp only [List.mem_cons, List.not_mem_nil, or_false] at hd; rcases hd with rfl | hd))), fun k hz0 => ?_⟩
  have e0 := g_wk36_eq
  obtain ⟨d1, d2⟩ := hd
  rw [start_frame (by simp)]; simp only [enumV, go_sem, emptyH]
  repeat (first
    | (apply axJ; (focus ((with_reducible constructor) <;> rfl)))
    | (apply awT mixedOK hΓ (by kernel_rfl); (simp (disch := omega) only [go_sem, ↓reduceIte, dk, ↓lk, Int.reduceBEq, Int.reduceBNe, Bool.true_bne, Bool.false_bne, Bool.not_true, Bool.not_false, e0] <;> with_reducible rfl))
    | ((first | apply awR hΓ | apply awG | apply awH mixedOK hΓ rfl (by kernel_rfl) | apply ovE rfl); (simp (disch := omega) only [go_sem, ↓reduceIte, dk, ↓lk, Int.reduceBEq, Int.reduceBNe, Bool.true_bne, Bool.false_bne, Bool.not_true, Bool.not_false, e0] <;> with_reducible rfl); exact trivial)
    | rfl)
  refine awp_weak (Weak.nilrowF (i := 4) 33 (sz := 4) (by omega) (by omega) rfl) ?_
  refine awp_loop_at (X := Nat) (fun i => (frame 112 [(0, .data (.list (l.map eX))), (3, .data (.str (manyS (l.take i)))), (4, .row 8 ((l.take i).foldl kidStep []).length), (18, .data (.list (l.map eX))), (19, .data (i64 l.length)), (20, .data (i64 i))])) (fun i => [(8, .row 33 4 (((l.take i).foldl kidStep []).map eX))]) 9
    (fun i => i ≤ l.length ∧ (∀ x ∈ l.take i, checkE x = 0 ∧ isT (textX x) = true) ∧ (0 < i → l.length ≤ 8)) (fun i => l.length - i) 0 ⟨Nat.zero_le _, fun x hx => by simp at hx, fun h => absurd h (Nat.lt_irrefl _)⟩ (Weak.v (by (simp [ConvF, lookV, Conv, ints, upd, List.take_zero, List.foldl_nil, manyS, List.flatMap_nil]; done)) (by (simp (disch := omega) only [TabSub, look, if_pos, if_neg, Obj.refsOK, refsOKs, AV.refsOK, decide_eq_true_eq, Bool.and_true, Bool.and_self, upd, List.take_zero, List.foldl_nil, manyS, List.flatMap_nil] ) <;> ((repeat' apply And.intro) <;> first | exact True.intro | omega | (simp; done) | rfl))) ?_
  rintro i ⟨hi, hok, h8⟩
  (try dsimp only at hi hok h8 ⊢)
  by_cases hi2 : i < l.length
  · by_cases hl8 : (l.length : Int) > 8
    · have h1 : decide ((l.length : Int) > 8) = true := decide_eq_true hl8
      repeat (first
        | (apply axJ; (focus ((with_reducible constructor) <;> rfl)))
        | (apply awT mixedOK hΓ (by kernel_rfl); (simp (disch := omega) only [go_sem, ↓reduceIte, dk, ↓lk, Int.reduceBEq, Int.reduceBNe, Bool.true_bne, Bool.false_bne, Bool.not_true, Bool.not_false, h1, eX_eq] <;> with_reducible rfl))
        | ((first | apply awR hΓ | apply awG | apply awH mixedOK hΓ rfl (by kernel_rfl) | apply ovE rfl); (simp (disch := omega) only [go_sem, ↓reduceIte, dk, ↓lk, Int.reduceBEq, Int.reduceBNe, Bool.true_bne, Bool.false_bne, Bool.not_true, Bool.not_false, h1, eX_eq] <;> with_reducible rfl); exact trivial)
        | rfl)
      try rfl
    have h1 : decide ((l.length : Int) > 8) = false := decide_eq_false hl8
    have hbd := d2 _ (List.getElem_mem hi2)
    have hmt := many_take hi2
    have hkt := kids_take hi2
    obtain ⟨k1, k2⟩ := kids_inv (p := fun x => x.Bd 1099511627776) d2 i hi
    have hml := many_len (l.take i) fun x hx => (hok x hx).2
    have hat := fun hp => all_take (p := fun x => checkE x = 0 ∧ isT (textX x) = true) hi2 hok hp
    have htl : (l.take i).length ≤ l.length := by rw [List.length_take]; omega
    generalize hx : l[i] = x at *
    have e1 := g_few_eq hbd
    have e2 := g_sizeP_eq hbd
    have e3 := g_fmtP_eq hbd
    generalize fewX x = c1 at *
    cases c1
    · repeat (first
      | (apply axJ; (focus ((with_reducible constructor) <;> rfl)))
      | (apply awT mixedOK hΓ (by kernel_rfl); (simp (disch := omega) only [go_sem, ↓reduceIte, dk, ↓lk, Int.reduceBEq, Int.reduceBNe, Bool.true_bne, Bool.false_bne, Bool.not_true, Bool.not_false, h1, hx, e1, eX_eq] <;> with_reducible rfl))
      | ((first | apply awR hΓ | apply awG | apply awH mixedOK hΓ rfl (by kernel_rfl) | apply ovE rfl); (simp (disch := omega) only [go_sem, ↓reduceIte, dk, ↓lk, Int.reduceBEq, Int.reduceBNe, Bool.true_bne, Bool.false_bne, Bool.not_true, Bool.not_false, h1, hx, e1, eX_eq] <;> with_reducible rfl); exact trivial)
      | rfl)
      try rfl
    by_cases hz : (x.size : Int) > 20
    · have h2 : decide ((x.size : Int) > 20) = true := decide_eq_true hz
      repeat (first
        | (apply axJ; (focus ((with_reducible constructor) <;> rfl)))
        | (apply awT mixedOK hΓ (by kernel_rfl); (simp (disch := omega) only [go_sem, ↓reduceIte, dk, ↓lk, Int.reduceBEq, Int.reduceBNe, Bool.true_bne, Bool.false_bne, Bool.not_true, Bool.not_false, h1, h2, hx, e1, e2, eX_eq] <;> with_reducible rfl))
        | ((first | apply awR hΓ | apply awG | apply awH mixedOK hΓ rfl (by kernel_rfl) | apply ovE rfl); (simp (disch := omega) only [go_sem, ↓reduceIte, dk, ↓lk, Int.reduceBEq, Int.reduceBNe, Bool.true_bne, Bool.false_bne, Bool.not_true, Bool.not_false, h1, h2, hx, e1, e2, eX_eq] <;> with_reducible rfl); exact trivial)
        | rfl)
      try rfl
    have h2 : decide ((x.size : Int) > 20) = false := decide_eq_false hz
    by_cases hc : checkE x = 0
    case neg =>
      rw [show fmtX x = ([], checkE x) by unfold fmtX; rw [if_pos (by simpa [bne] using hc)]] at e3
      have e4 := g_writeP_eq (m := 0) (s := []) (by decide)
      generalize writeB 0 [] = p at e4
      obtain ⟨p1, p2⟩ := p
      have hb : (checkE x != 0) = true := by simpa [bne] using hc
      simp only [eFmt] at e3 e4
      generalize checkE x = e at *
      repeat (first
        | (apply axJ; (focus ((with_reducible constructor) <;> rfl)))
        | (apply awT mixedOK hΓ (by kernel_rfl); (simp (disch := omega) only [go_sem, ↓reduceIte, dk, ↓lk, Int.reduceBEq, Int.reduceBNe, Bool.true_bne, Bool.false_bne, Bool.not_true, Bool.not_false, h1, h2, hx, e1, e2, e3, e4, hb, eX_eq] <;> with_reducible rfl))
        | ((first | apply awR hΓ | apply awG | apply awH mixedOK hΓ rfl (by kernel_rfl) | apply ovE rfl); (simp (disch := omega) only [go_sem, ↓reduceIte, dk, ↓lk, Int.reduceBEq, Int.reduceBNe, Bool.true_bne, Bool.false_bne, Bool.not_true, Bool.not_false, h1, h2, hx, e1, e2, e3, e4, hb, eX_eq] <;> with_reducible rfl); exact trivial)
        | rfl)
      try rfl
    rw [show fmtX x = (textX x, 0) by unfold fmtX; rw [hc]; rfl] at e3
    have htb := text_big hc
    have e4 := g_writeP_eq (m := 0) (s := textX x) htb
    simp only [eFmt] at e3 e4
    by_cases hT : isT (textX x) = true
    case neg =>
      rw [show writeB 0 (textX x) = ([], 4) by unfold writeB; rw [if_pos (by rfl), if_neg hT]] at e4
      dsimp only at e4
      repeat (first
        | (apply axJ; (focus ((with_reducible constructor) <;> rfl)))
        | (apply awT mixedOK hΓ (by kernel_rfl); (simp (disch := omega) only [go_sem, ↓reduceIte, dk, ↓lk, Int.reduceBEq, Int.reduceBNe, Bool.true_bne, Bool.false_bne, Bool.not_true, Bool.not_false, h1, h2, hx, e1, e2, e3, e4, eX_eq] <;> with_reducible rfl))
        | ((first | apply awR hΓ | apply awG | apply awH mixedOK hΓ rfl (by kernel_rfl) | apply ovE rfl); (simp (disch := omega) only [go_sem, ↓reduceIte, dk, ↓lk, Int.reduceBEq, Int.reduceBNe, Bool.true_bne, Bool.false_bne, Bool.not_true, Bool.not_false, h1, h2, hx, e1, e2, e3, e4, eX_eq] <;> with_reducible rfl); exact trivial)
        | rfl)
      try rfl
    obtain ⟨_, ht2, _, _⟩ := isT_trim hT
    have hwl := write_len 0 (textX x)
    rw [show writeB 0 (textX x) = (lineB 0 (textX x), 0) by unfold writeB; rw [if_pos (by rfl), if_pos hT]] at e4 hwl
    dsimp only at e4 hwl
    have hok2 := hat ⟨hc, hT⟩
    generalize lineB 0 (textX x) = u at *
    generalize textX x = tx at *
    generalize hms : manyS (l.take i) = ms at *
    rw [show kidStep ((l.take i).foldl kidStep []) x = if ((l.take i).foldl kidStep []).any (eqX x) then (l.take i).foldl kidStep [] else (l.take i).foldl kidStep [] ++ [x] from rfl] at hkt
    generalize (l.take i).foldl kidStep [] = kids at *
    have e5 := g_anyD36_eq (l := kids) (x := x) (by omega) k1 hbd
    generalize kids.any (eqX x) = b at *
    have hc0 : ([10] : Bs).length = 1 := rfl
    have hc1 : (u ++ [10]).length = u.length + 1 := by simp
    cases b
    · rw [if_neg (by decide)] at hkt
      have hm : (kids ++ [x]).map eX = kids.map eX ++ [.agg [.int .i64 x.kind, .str x.name, .str x.exc, .list (x.kids.map eX)]] := by rw [List.map_append, List.map_cons, List.map_nil, eX_eq]
      repeat (first
        | (apply axJ; (focus ((with_reducible constructor) <;> rfl)))
        | (apply awT mixedOK hΓ (by kernel_rfl); (simp (disch := omega) only [go_sem, ↓reduceIte, dk, ↓lk, Int.reduceBEq, Int.reduceBNe, Bool.true_bne, Bool.false_bne, Bool.not_true, Bool.not_false, hc0, hc1, h1, h2, hx, e1, e2, e3, e4, e5, eX_eq] <;> with_reducible rfl))
        | ((first | apply awR hΓ | apply awG | apply awH mixedOK hΓ rfl (by kernel_rfl) | apply ovE rfl); (simp (disch := omega) only [go_sem, ↓reduceIte, dk, ↓lk, Int.reduceBEq, Int.reduceBNe, Bool.true_bne, Bool.false_bne, Bool.not_true, Bool.not_false, hc0, hc1, h1, h2, hx, e1, e2, e3, e4, e5, eX_eq] <;> with_reducible rfl); exact trivial)
        | rfl)
      exact ⟨i + 1, ⟨by omega, hok2, fun _ => by omega⟩, by omega, by rw [hmt, hkt]; exact Weak.v (by (simp [ConvF, lookV, Conv, ints, hm]; done)) (by (simp (disch := omega) only [TabSub, look, if_pos, if_neg, Obj.refsOK, refsOKs, AV.refsOK, decide_eq_true_eq, Bool.and_true, Bool.and_self, hm] ) <;> ((repeat' apply And.intro) <;> first | exact True.intro | omega | (simp; done) | rfl))⟩
    · rw [if_pos rfl] at hkt
      repeat (first
        | (apply axJ; (focus ((with_reducible constructor) <;> rfl)))
        | (apply awT mixedOK hΓ (by kernel_rfl); (simp (disch := omega) only [go_sem, ↓reduceIte, dk, ↓lk, Int.reduceBEq, Int.reduceBNe, Bool.true_bne, Bool.false_bne, Bool.not_true, Bool.not_false, hc0, hc1, h1, h2, hx, e1, e2, e3, e4, e5, eX_eq] <;> with_reducible rfl))
        | ((first | apply awR hΓ | apply awG | apply awH mixedOK hΓ rfl (by kernel_rfl) | apply ovE rfl); (simp (disch := omega) only [go_sem, ↓reduceIte, dk, ↓lk, Int.reduceBEq, Int.reduceBNe, Bool.true_bne, Bool.false_bne, Bool.not_true, Bool.not_false, hc0, hc1, h1, h2, hx, e1, e2, e3, e4, e5, eX_eq] <;> with_reducible rfl); exact trivial)
        | rfl)
      exact ⟨i + 1, ⟨by omega, hok2, fun _ => by omega⟩, by omega, by rw [hmt, hkt]; exact Weak.w⟩
  have hi3 : i = l.length := by omega
  subst hi3
  rw [List.take_length] at hok ⊢
  obtain ⟨k1, k2⟩ := kids_inv (p := fun x => checkE x = 0 ∧ x.Bd 1099511627776) (l := l) (fun x hx => ⟨(hok x hx).1, d2 x hx⟩) l.length (Nat.le_refl _)
  rw [List.take_length] at k1 k2
  have hml := many_len l fun x hx => (hok x hx).2
  have hl8 : l.length ≤ 8 := by
    by_cases h0 : 0 < l.length
    · exact h8 h0
    · omega
  have e1 := g_scan_eq (s := manyS l) (by omega)
  have hsl : (scanB (manyS l)).length ≤ l.length + 1 := by
    have h1 := scanGo_len (splitB 10 (manyS l)) 0
    have h3 := congrArg List.length (many_split l fun x hx => (hok x hx).2)
    rw [List.length_append, List.length_map] at h3
    simp only [List.length_cons, List.length_nil] at h3
    unfold scanB
    omega
  have hso := scanGo_ok (splitB 10 (manyS l)) 0
  have e2 := g_declP_eq (l := scanB (manyS l)) ⟨by omega, fun h hh => by
    obtain ⟨_, h2, _⟩ := hso h hh
    obtain ⟨_, h3, _⟩ := isT_trim h2
    omega⟩
  rw [decl_many hok] at e2
  generalize scanB (manyS l) = sc at *
  generalize manyS l = ms at *
  generalize l.foldl kidStep [] = kids at *
  match kids, k1, k2 with
  | [], _, _ =>
    rw [show sumX [] = (x0, -1, 7) from rfl] at e2
    simp only [ePr, eX_eq] at e2
    have hn0 : (((0 : Nat) : Int) == 0) = true := rfl
    have hn1 : (((0 : Nat) : Int) == 1) = false := rfl
    repeat (first
      | (apply axJ; (focus ((with_reducible constructor) <;> rfl)))
      | (apply awT mixedOK hΓ (by kernel_rfl); (simp (disch := omega) only [go_sem, ↓reduceIte, dk, ↓lk, Int.reduceBEq, Int.reduceBNe, Bool.true_bne, Bool.false_bne, Bool.not_true, Bool.not_false, ↓ty_build33, hn0, hn1, e1, e2] <;> with_reducible rfl))
      | ((first | apply awR hΓ | apply awG | apply awH mixedOK hΓ rfl (by kernel_rfl) | apply ovE rfl); (simp (disch := omega) only [go_sem, ↓reduceIte, dk, ↓lk, Int.reduceBEq, Int.reduceBNe, Bool.true_bne, Bool.false_bne, Bool.not_true, Bool.not_false, ↓ty_build33, hn0, hn1, e1, e2] <;> with_reducible rfl); exact trivial)
      | rfl)
    try rfl
  | [x], k1, k2 =>
    obtain ⟨c1, c2⟩ := k1 x (by simp)
    rw [show sumX [x] = (x, 0, 0) from rfl] at e2
    simp only [ePr, eX_eq] at e2
    have hn0 : (((1 : Nat) : Int) == 0) = false := rfl
    have hn1 : (((1 : Nat) : Int) == 1) = true := rfl
    have hl1 : ([x] : List LX).length = 1 := rfl
    have hx0 : ∀ h, ([x] : List LX)[0]'h = x := fun _ => rfl
    have e3 := g_checkP_eq c2
    rw [c1] at e3
    have e4 := g_equalP_eq (h := 1099511627776) (a := x) (b := x) ⟨Nat.le_trans x.hgt_le c2.z, c2, c2⟩
    rw [eqX_refl] at e4
    generalize [x] = kids at *
    repeat (first
      | (apply axJ; (focus ((with_reducible constructor) <;> rfl)))
      | (apply awT mixedOK hΓ (by kernel_rfl); (simp (disch := omega) only [go_sem, ↓reduceIte, dk, ↓lk, Int.reduceBEq, Int.reduceBNe, Bool.true_bne, Bool.false_bne, Bool.not_true, Bool.not_false, Int.reduceToNat, List.getElem?_cons_zero, List.getElem?_cons_succ, ↓ty_build33, hn0, hn1, hl1, hx0, Int.reduceToNat, e1, e2, e3, e4, eX_eq] <;> with_reducible rfl))
      | ((first | apply awR hΓ | apply awG | apply awH mixedOK hΓ rfl (by kernel_rfl) | apply ovE rfl); (simp (disch := omega) only [go_sem, ↓reduceIte, dk, ↓lk, Int.reduceBEq, Int.reduceBNe, Bool.true_bne, Bool.false_bne, Bool.not_true, Bool.not_false, Int.reduceToNat, List.getElem?_cons_zero, List.getElem?_cons_succ, ↓ty_build33, hn0, hn1, hl1, hx0, Int.reduceToNat, e1, e2, e3, e4, eX_eq] <;> with_reducible rfl); exact trivial)
      | rfl)
    try rfl
  | x :: y :: r, k1, k2 =>
    have hbd := and_bd k1 (by omega)
    have hs : sumX (x :: y :: r) = if checkE (.mk 2 [] [] (x :: y :: r)) == 0 then (.mk 2 [] [] (x :: y :: r), 0, 0) else (x0, -1, checkE (.mk 2 [] [] (x :: y :: r))) := rfl
    rw [hs] at e2
    have e3 := g_checkP_eq hbd
    have e4 := g_equalP_eq (h := 1099511627776) (a := LX.mk 2 [] [] (x :: y :: r)) (b := LX.mk 2 [] [] (x :: y :: r)) ⟨Nat.le_trans (LX.hgt_le _) hbd.z, hbd, hbd⟩
    rw [eqX_refl] at e4
    have hn0 : (((x :: y :: r).length : Int) == 0) = false := by rw [beq_eq_false_iff_ne, List.length_cons]; omega
    have hn1 : (((x :: y :: r).length : Int) == 1) = false := by rw [beq_eq_false_iff_ne, List.length_cons, List.length_cons]; omega
    simp only [lx_kind, lx_name, lx_exc, lx_kids] at e3 e4
    generalize checkE (.mk 2 [] [] (x :: y :: r)) = e at *
    generalize x :: y :: r = kids at *
    by_cases he : e = 0
    · subst he
      rw [if_pos (by rfl)] at e2
      simp only [ePr, eX_eq, lx_kind, lx_name, lx_exc, lx_kids] at e2
      repeat (first
        | (apply axJ; (focus ((with_reducible constructor) <;> rfl)))
        | (apply awT mixedOK hΓ (by kernel_rfl); (simp (disch := omega) only [go_sem, ↓reduceIte, dk, ↓lk, Int.reduceBEq, Int.reduceBNe, Bool.true_bne, Bool.false_bne, Bool.not_true, Bool.not_false, ↓ty_build33, hn0, hn1, e1, e2, e3, e4] <;> with_reducible rfl))
        | ((first | apply awR hΓ | apply awG | apply awH mixedOK hΓ rfl (by kernel_rfl) | apply ovE rfl); (simp (disch := omega) only [go_sem, ↓reduceIte, dk, ↓lk, Int.reduceBEq, Int.reduceBNe, Bool.true_bne, Bool.false_bne, Bool.not_true, Bool.not_false, ↓ty_build33, hn0, hn1, e1, e2, e3, e4] <;> with_reducible rfl); exact trivial)
        | rfl)
      try rfl
    · have hb : (e == 0) = false := by simpa using he
      have hb2 : (e != 0) = true := by simpa [bne] using he
      rw [hb, if_neg (by decide)] at e2
      simp only [ePr, eX_eq] at e2
      repeat (first
        | (apply axJ; (focus ((with_reducible constructor) <;> rfl)))
        | (apply awT mixedOK hΓ (by kernel_rfl); (simp (disch := omega) only [go_sem, ↓reduceIte, dk, ↓lk, Int.reduceBEq, Int.reduceBNe, Bool.true_bne, Bool.false_bne, Bool.not_true, Bool.not_false, BEq.rfl, ↓ty_build33, hn0, hn1, e1, e2, e3, hb2] <;> with_reducible rfl))
        | ((first | apply awR hΓ | apply awG | apply awH mixedOK hΓ rfl (by kernel_rfl) | apply ovE rfl); (simp (disch := omega) only [go_sem, ↓reduceIte, dk, ↓lk, Int.reduceBEq, Int.reduceBNe, Bool.true_bne, Bool.false_bne, Bool.not_true, Bool.not_false, BEq.rfl, ↓ty_build33, hn0, hn1, e1, e2, e3, hb2] <;> with_reducible rfl); exact trivial)
        | rfl)
      try rfl
end Go.Ab
