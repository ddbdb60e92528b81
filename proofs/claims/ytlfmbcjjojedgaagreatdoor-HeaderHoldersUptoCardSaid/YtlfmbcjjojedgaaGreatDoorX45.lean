/-
  One text of the proof (own work): contracts of functions of the program, by the abstract machine.
-/
import Derived.Test.YtlfmbcjjojedgaaGreatDoorX19
import Derived.Test.YtlfmbcjjojedgaaGreatDoorX44
import Derived.Test.YtlfmbcjjojedgaaGreatDoorX27
set_option linter.unusedVariables false
set_option linter.unusedSimpArgs false
namespace Go.Ab
open Go Go.RowKit Go.Proofs
set_option maxRecDepth 10000
set_option maxHeartbeats 16000000
noncomputable def g_sIdx36 : List D → Option D := encSpec (fun x : (List Bs) × Bs => [.list (x.1.map .str), .str x.2]) (fun x : (List Bs) × Bs => x.1.length ≤ 1099511627776) (fun x : (List Bs) × Bs => i64 (idx (fun w => w == x.2) x.1))
theorem g_sIdx36_eq {l : List Bs} {s : Bs} (hd : l.length ≤ 1099511627776) : g_sIdx36 [.list (l.map .str), .str s] = some (i64 (idx (fun w => w == s) l)) := encSpec_eq (x := (l, s)) hd fun y hy => by
    obtain ⟨y0, y1⟩ := y; simp only [List.cons.injEq, and_true, true_and, D.str.injEq, D.int.injEq, D.list.injEq, D.bool.injEq, D.agg.injEq, D.clo.injEq, Int.natCast_inj, inj_ie, eHd_e, eHd_ie, D.ref.injEq, D.clo.injEq] at hy
    (try obtain ⟨rfl, rfl⟩ := hy)
    (try subst_vars)
    rfl
theorem f_sIdx36_ok : PureOK Tryz.prog 73 true g_sIdx36 := by
  have hΓ := Γ0_ok
  refine pure_enc (n := 19) (rs := [.tmp 4]) Tryz.func73 (by kernel_rfl) rfl (by kernel_rfl) (by kernel_rfl) ?_
  rintro ⟨l, s⟩ hd
  (try dsimp only at hd ⊢)
  refine ⟨fun _ => by (repeat (first | exact .int _ _ | exact .bool _ | exact .str _ | (refine .tup _ (fun d hd => ?_); simp only [List.mem_cons, List.not_mem_nil, or_false] at hd; rcases hd with rfl | hd))), fun k hz0 => ?_⟩
  rw [start_frame (by simp)]; simp only [enumV, go_sem, emptyH]
  repeat (first
    | (apply axJ; (focus ((with_reducible constructor) <;> rfl)))
    | (apply awT mixedOK hΓ (by kernel_rfl); (simp (disch := omega) only [go_sem, ↓reduceIte, dk, ↓lk] <;> with_reducible rfl))
    | ((first | apply awR hΓ | apply awG | apply awH mixedOK hΓ rfl (by kernel_rfl) | apply ovE rfl); (simp (disch := omega) only [go_sem, ↓reduceIte, dk, ↓lk] <;> with_reducible rfl); exact trivial)
    | rfl)
  refine awp_loop_at (X := Nat) (fun i => (frame 19 [(0, .data (.list (l.map .str))), (1, .data (.str s)), (7, .data (i64 l.length)), (8, .data (i64 i))])) (fun _ => []) 9
    (fun i => i ≤ l.length ∧ (l.take i).any (fun w => w == s) = false) (fun i => l.length - i) 0 ⟨Nat.zero_le _, rfl⟩ (Weak.w) ?_
  rintro i ⟨hi, hpre⟩
  by_cases hi' : i < l.length
  · have hat := fun h => idx_at (p := fun w => w == s) hi' h hpre
    have hnx := fun h => any_next (p := fun w => w == s) hi' hpre h
    generalize hy : l[i] = y at *
    generalize hc : (y == s) = c at *
    have hc' : (s == y) = c := by rw [← hc]; exact Bool.beq_comm
    cases c
    · repeat (first
      | (apply axJ; (focus ((with_reducible constructor) <;> rfl)))
      | (apply awT mixedOK hΓ (by kernel_rfl); (simp (disch := omega) only [go_sem, ↓reduceIte, dk, ↓lk, hy, hc, hc'] <;> with_reducible rfl))
      | ((first | apply awR hΓ | apply awG | apply awH mixedOK hΓ rfl (by kernel_rfl) | apply ovE rfl); (simp (disch := omega) only [go_sem, ↓reduceIte, dk, ↓lk, hy, hc, hc'] <;> with_reducible rfl); exact trivial)
      | rfl)
      exact ⟨i + 1, ⟨by omega, hnx rfl⟩, by omega, Weak.w⟩
    · rw [hat rfl]
      repeat (first
        | (apply axJ; (focus ((with_reducible constructor) <;> rfl)))
        | (apply awT mixedOK hΓ (by kernel_rfl); (simp (disch := omega) only [go_sem, ↓reduceIte, dk, ↓lk, hy, hc, hc'] <;> with_reducible rfl))
        | ((first | apply awR hΓ | apply awG | apply awH mixedOK hΓ rfl (by kernel_rfl) | apply ovE rfl); (simp (disch := omega) only [go_sem, ↓reduceIte, dk, ↓lk, hy, hc, hc'] <;> with_reducible rfl); exact trivial)
        | rfl)
      try rfl
  · have hi3 : i = l.length := by omega
    subst hi3
    rw [List.take_length] at hpre
    rw [idx_none hpre]
    repeat (first
      | (apply axJ; (focus ((with_reducible constructor) <;> rfl)))
      | (apply awT mixedOK hΓ (by kernel_rfl); (simp (disch := omega) only [go_sem, ↓reduceIte, dk, ↓lk] <;> with_reducible rfl))
      | ((first | apply awR hΓ | apply awG | apply awH mixedOK hΓ rfl (by kernel_rfl) | apply ovE rfl); (simp (disch := omega) only [go_sem, ↓reduceIte, dk, ↓lk] <;> with_reducible rfl); exact trivial)
      | rfl)
    try rfl
noncomputable def g_sCon36 : List D → Option D := encSpec (fun x : (List Bs) × Bs => [.list (x.1.map .str), .str x.2]) (fun x : (List Bs) × Bs => x.1.length ≤ 1099511627776) (fun x : (List Bs) × Bs => .bool (x.1.any fun w => w == x.2))
theorem g_sCon36_eq {l : List Bs} {s : Bs} (hd : l.length ≤ 1099511627776) : g_sCon36 [.list (l.map .str), .str s] = some (.bool (l.any fun w => w == s)) := encSpec_eq (x := (l, s)) hd fun y hy => by
    obtain ⟨y0, y1⟩ := y; simp only [List.cons.injEq, and_true, true_and, D.str.injEq, D.int.injEq, D.list.injEq, D.bool.injEq, D.agg.injEq, D.clo.injEq, Int.natCast_inj, inj_ie, eHd_e, eHd_ie, D.ref.injEq, D.clo.injEq] at hy
    (try obtain ⟨rfl, rfl⟩ := hy)
    (try subst_vars)
    rfl
theorem f_sCon36_ok : PureOK Tryz.prog 40 true g_sCon36 := by
  have hΓ := Γp f_sIdx36_ok (Γn)
  refine pure_enc (n := 9) (rs := [.tmp 4]) Tryz.func40 (by kernel_rfl) rfl (by kernel_rfl) (by kernel_rfl) ?_
  rintro ⟨l, s⟩ hd
  (try dsimp only at hd ⊢)
  refine ⟨fun _ => by (repeat (first | exact .int _ _ | exact .bool _ | exact .str _ | (refine .tup _ (fun d hd => ?_); simp only [List.mem_cons, List.not_mem_nil, or_false] at hd; rcases hd with rfl | hd))), fun k hz0 => ?_⟩
  have e1 := g_sIdx36_eq (l := l) (s := s) hd
  have hn := idx_nonneg (fun w => w == s) l
  generalize idx (fun w => w == s) l = n at *
  rw [← hn]
  rw [start_frame (by simp)]; simp only [enumV, go_sem, emptyH]
  generalize hc : decide (n ≥ 0) = c
  cases c
  · repeat (first
    | (apply axJ; (focus ((with_reducible constructor) <;> rfl)))
    | (apply awT mixedOK hΓ (by kernel_rfl); (simp (disch := omega) only [go_sem, ↓reduceIte, dk, ↓lk, e1, hc] <;> with_reducible rfl))
    | ((first | apply awR hΓ | apply awG | apply awH mixedOK hΓ rfl (by kernel_rfl) | apply ovE rfl); (simp (disch := omega) only [go_sem, ↓reduceIte, dk, ↓lk, e1, hc] <;> with_reducible rfl); exact trivial)
    | rfl)
    try rfl
  · repeat (first
    | (apply axJ; (focus ((with_reducible constructor) <;> rfl)))
    | (apply awT mixedOK hΓ (by kernel_rfl); (simp (disch := omega) only [go_sem, ↓reduceIte, dk, ↓lk, e1, hc] <;> with_reducible rfl))
    | ((first | apply awR hΓ | apply awG | apply awH mixedOK hΓ rfl (by kernel_rfl) | apply ovE rfl); (simp (disch := omega) only [go_sem, ↓reduceIte, dk, ↓lk, e1, hc] <;> with_reducible rfl); exact trivial)
    | rfl)
    try rfl
def holdQ (h : List Bs) (i : Nat) (x : Hd) : Bool := x.kind == 1 && x.text == h.getD i []
noncomputable def g_holdC : List D → Option D := encSpec (fun x : Hd × (List Bs) × Nat => [eHd x.1, .ref [.list (x.2.1.map .str)], .ref [i64 x.2.2]]) (fun x : Hd × (List Bs) × Nat => x.2.2 < x.2.1.length) (fun x : Hd × (List Bs) × Nat => .bool (holdQ x.2.1 x.2.2 x.1))
theorem g_holdC_eq {y : Hd} {h : List Bs} {i : Nat} (hd : i < h.length) : g_holdC [eHd y, .ref [.list (h.map .str)], .ref [.int .i64 i]] = some (.bool (holdQ h i y)) := encSpec_eq (x := (y, h, i)) hd fun y hy => by
    obtain ⟨y0, y1, y2⟩ := y; simp only [List.cons.injEq, and_true, true_and, D.str.injEq, D.int.injEq, D.list.injEq, D.bool.injEq, D.agg.injEq, D.clo.injEq, Int.natCast_inj, inj_ie, eHd_e, eHd_ie, D.ref.injEq, D.clo.injEq] at hy
    (try obtain ⟨rfl, rfl, rfl⟩ := hy)
    (try subst_vars)
    rfl
theorem f_holdC_ok : PureOK Tryz.prog 39 true g_holdC := by
  have hΓ := Γ0_ok
  refine pure_enc (n := 17) (rs := [.tmp 4]) Tryz.func39 (by kernel_rfl) rfl (by kernel_rfl) (by kernel_rfl) ?_
  rintro ⟨y, h, i⟩ hd
  (try dsimp only at hd ⊢)
  refine ⟨fun _ => by (repeat (first | exact .int _ _ | exact .bool _ | exact .str _ | (refine .tup _ (fun d hd => ?_); simp only [List.mem_cons, List.not_mem_nil, or_false] at hd; rcases hd with rfl | hd))), fun k hz0 => ?_⟩
  unfold holdQ
  have hg : h.getD i [] = h[i] := by rw [List.getD_eq_getElem?_getD, List.getElem?_eq_getElem hd]; rfl
  rw [hg, eHd_eq]
  generalize hz : h[i] = z at *
  generalize hc1 : (y.kind == 1) = c1
  generalize hc2 : (y.text == z) = c2
  rw [start_frame (by simp)]; simp only [enumV, go_sem, emptyH]
  cases c1
  · repeat (first
    | (apply axJ; (focus ((with_reducible constructor) <;> rfl)))
    | (apply awT mixedOK hΓ (by kernel_rfl); (simp (disch := omega) only [go_sem, ↓reduceIte, dk, ↓lk, Int.reduceBEq, Int.reduceBNe, Bool.true_bne, Bool.false_bne, Bool.not_true, Bool.not_false, hc1] <;> with_reducible rfl))
    | ((first | apply awR hΓ | apply awG | apply awH mixedOK hΓ rfl (by kernel_rfl) | apply ovE rfl); (simp (disch := omega) only [go_sem, ↓reduceIte, dk, ↓lk, Int.reduceBEq, Int.reduceBNe, Bool.true_bne, Bool.false_bne, Bool.not_true, Bool.not_false, hc1] <;> with_reducible rfl); exact trivial)
    | rfl)
    try rfl
  · repeat (first
    | (apply axJ; (focus ((with_reducible constructor) <;> rfl)))
    | (apply awT mixedOK hΓ (by kernel_rfl); (simp (disch := omega) only [go_sem, ↓reduceIte, dk, ↓lk, Int.reduceBEq, Int.reduceBNe, Bool.true_bne, Bool.false_bne, Bool.not_true, Bool.not_false, hc1, hc2, hz] <;> with_reducible rfl))
    | ((first | apply awR hΓ | apply awG | apply awH mixedOK hΓ rfl (by kernel_rfl) | apply ovE rfl); (simp (disch := omega) only [go_sem, ↓reduceIte, dk, ↓lk, Int.reduceBEq, Int.reduceBNe, Bool.true_bne, Bool.false_bne, Bool.not_true, Bool.not_false, hc1, hc2, hz] <;> with_reducible rfl); exact trivial)
    | rfl)
    try rfl
noncomputable def g_anyHh : List D → Option D := encSpec (fun y : List Hd × List Bs × Nat => [.list (y.1.map eHd), .clo 39 [.ref [.list (y.2.1.map .str)], .ref [i64 y.2.2]]]) (fun y => y.1.length ≤ 1099511627776 ∧ y.2.2 < y.2.1.length) (fun y => .bool (y.1.any (holdQ y.2.1 y.2.2)))
theorem f_anyHh_ok : PureOK Tryz.prog 38 true g_anyHh := by
  refine pure_union (X := {x : List Bs × Nat // x.2 < x.1.length}) (G := fun x => gAnyD eHd (fun _ => True) 39 [.ref [.list (x.1.1.map .str)], .ref [i64 x.1.2]] (holdQ x.1.1 x.1.2)) (fun x => f_anyH_ok f_holdC_ok fun y _ => g_holdC_eq (y := y) (h := x.1.1) (i := x.1.2) x.2) fun ds d hd => ?_
  obtain ⟨⟨l, h, i⟩, rfl, ⟨h1, h2⟩, rfl⟩ := encSpec_some hd
  exact ⟨⟨(h, i), h2⟩, gAnyD_eq eHd_inj h1 (fun _ _ => trivial)⟩
theorem strs_e (a b : List Bs) : (a.map D.str = b.map D.str) = (a = b) := map_ie str_inj' a b
theorem g_anyHh_eq {l : List Hd} {h : List Bs} {i : Nat} (h1 : l.length ≤ 1099511627776) (h2 : i < h.length) : g_anyHh [.list (l.map eHd), .clo 39 [.ref [.list (h.map .str)], .ref [.int .i64 i]]] = some (.bool (l.any (holdQ h i))) := encSpec_eq (x := (l, h, i)) ⟨h1, h2⟩ fun y hy => by
  obtain ⟨y1, y2, y3⟩ := y
  simp only [List.cons.injEq, and_true, D.list.injEq, D.clo.injEq, D.ref.injEq, D.int.injEq, true_and, eHd_ie, strs_e, Int.natCast_inj] at hy
  obtain ⟨rfl, rfl, rfl⟩ := hy
  rfl
theorem call_revH {l : List Hd} (h : l.length ≤ 1000000) (B : Obj) (k n : Nat) : callLoc k ⟨[(8, B), (11, .row 26 3 (l.map eHd))], n⟩ g_revH [.row 11 l.length] = some (.tup [], ⟨[(8, B), (11, .row 26 3 (l.reverse.map eHd))], k⟩) :=
  (callLoc_of (fp := [11]) rfl rfl rfl (g_revH_eq h) (by simp)).trans (by simp [ren, rens, backTo, putAll, upd, renO, Heap.get, look])
theorem hold_any {l : List Hd} {i : Nat} (hi : i < (holdP l).length) : l.any (holdQ (holdP l) i) = true := by
  obtain ⟨x, h1, h2, h3⟩ := hold_mem.1 (List.getElem_mem hi)
  refine List.any_eq_true.2 ⟨x, h1, ?_⟩
  unfold holdQ
  rw [List.getD_eq_getElem?_getD, List.getElem?_eq_getElem hi, h2, h3]
  simp
theorem hold_con {l : List Hd} {x : Hd} (h : x ∈ l) (hk : x.kind = 1) : ((holdP l).any fun w => w == x.text) = true := List.any_eq_true.2 ⟨x.text, hold_mem.2 ⟨x, h, hk, rfl⟩, by simp⟩
theorem getD_at (h : List Bs) {i : Nat} (hi : i < h.length) : h.getD i [] = h[i] := by
  rw [List.getD_eq_getElem?_getD, List.getElem?_eq_getElem hi]
  rfl
theorem hold_lt {l : List Hd} {i : Nat} (hi : i + 1 < (holdP l).length) : Op.bytesLess ((holdP l).getD i []) ((holdP l).getD (i + 1) []) = true := by
  rw [bl_lt, getD_at _ (by omega), getD_at _ hi]
  have := (holdP_ok l).1
  exact decide_eq_true ((List.pairwise_iff_getElem.1 this) i (i + 1) (by omega) hi (by omega))
noncomputable def g_law36f : List D → Option D := encSpec (fun x : (List Hd) => [.list (x.map eHd)]) (fun x : (List Hd) => x.length ≤ 1099511627776 ∧ ∀ h ∈ x, h.text.length ≤ 1099511627776) (fun x : (List Hd) => .bool true)
theorem f_law36f_ok : PureOK Tryz.prog 8 true g_law36f := by
  have hΓ := Γp f_wk36_ok (Γp f_fewR36_ok (Γp f_holdP36_ok (Γo f_cloH_ok (Γq f_revH_ok (Γp f_anyHh_ok (Γp f_sCon36_ok (Γp f_equalS_ok (Γn))))))))
  refine pure_enc (n := 66) (rs := [.tmp 2]) Tryz.func8 (by kernel_rfl) rfl (by kernel_rfl) (by kernel_rfl) ?_
  rintro l hd
  (try dsimp only at hd ⊢)
  refine ⟨fun _ => by (repeat (first | exact .int _ _ | exact .bool _ | exact .str _ | (refine .tup _ (fun d hd => ?_); simp only [List.mem_cons, List.not_mem_nil, or_false] at hd; rcases hd with rfl | hd))), fun k hz0 => ?_⟩
  have e0 := g_wk36_eq
  have e1 := g_fewR36_eq hd
  obtain ⟨d1, d2⟩ := hd
  have hf := @fewH_len l
  rw [start_frame (by simp)]; simp only [enumV, go_sem, emptyH]
  generalize fewH l = c at *
  cases c
  · repeat (first
    | (apply axJ; (focus ((with_reducible constructor) <;> rfl)))
    | (apply awT mixedOK hΓ (by kernel_rfl); (simp (disch := omega) only [go_sem, ↓reduceIte, dk, ↓lk, Int.reduceBEq, Int.reduceBNe, Bool.true_bne, Bool.false_bne, Bool.not_true, Bool.not_false, e0, e1] <;> with_reducible rfl))
    | ((first | apply awR hΓ | apply awG | apply awH mixedOK hΓ rfl (by kernel_rfl) | apply ovE rfl); (simp (disch := omega) only [go_sem, ↓reduceIte, dk, ↓lk, Int.reduceBEq, Int.reduceBNe, Bool.true_bne, Bool.false_bne, Bool.not_true, Bool.not_false, e0, e1] <;> with_reducible rfl); exact trivial)
    | rfl)
    try rfl
  obtain ⟨f1, f2⟩ := hf rfl
  have e2 := g_holdP36_eq (l := l) (by omega)
  have e3 := g_cloH_eq (l := l) (by omega)
  have e4 := fun B k n => call_revH (l := l) (by omega) B k n
  have e5 := g_holdP36_eq (l := l.reverse) (by simp; omega)
  rw [hold_rev] at e5
  have hhl := holdP_len l
  have e6 := g_equalS_eq (a := holdP l) (b := holdP l) ⟨by omega, by omega⟩
  rw [BEq.rfl] at e6
  have hany := @hold_any l
  have hcon := @hold_con l
  have hlt := @hold_lt l
  generalize holdP l = h at *
  have hm0 : l.length ≤ 1099511627776 := by omega
  repeat (first
    | (apply axJ; (focus ((with_reducible constructor) <;> rfl)))
    | (apply awT mixedOK hΓ (by kernel_rfl); (simp (disch := omega) only [go_sem, ↓reduceIte, dk, ↓lk, Int.reduceBEq, Int.reduceBNe, Bool.true_bne, Bool.false_bne, Bool.not_true, Bool.not_false, e0, e1, e2, e3, ↓e4] <;> with_reducible rfl))
    | ((first | apply awR hΓ | apply awG | apply awH mixedOK hΓ rfl (by kernel_rfl) | apply ovE rfl); (simp (disch := omega) only [go_sem, ↓reduceIte, dk, ↓lk, Int.reduceBEq, Int.reduceBNe, Bool.true_bne, Bool.false_bne, Bool.not_true, Bool.not_false, e0, e1, e2, e3, ↓e4] <;> with_reducible rfl); exact trivial)
    | rfl)
  refine awp_loop_at (X := Nat) (fun i => (frame 66 [(0, .data (.list (l.map eHd))), (3, .ptr 8 0), (4, .row 11 l.length), (20, .data (i64 h.length)), (21, .data (i64 i))])) (fun _ => [(8, .box [.data (.list (h.map .str))]), (11, .row 26 3 (l.reverse.map eHd))]) 18
    (fun i => i ≤ h.length) (fun i => h.length - i) 0 (Nat.zero_le _) (Weak.w) ?_
  intro i hi
  (try dsimp only at hi ⊢)
  by_cases hi2 : i < h.length
  · have ea := g_anyHh_eq (l := l) hm0 hi2
    rw [hany hi2] at ea
    by_cases h0 : i = 0
    · subst h0
      have hg0 : decide (((0 : Nat) : Int) > 0) = false := decide_eq_false (by omega)
      (repeat (first | (apply axJ; (focus ((with_reducible constructor) <;> rfl))) | ((first | apply awR hΓ | apply awG | apply ovE rfl); (simp (disch := omega) only [go_sem, ↓reduceIte, dk, ↓lk, Int.reduceBEq, Int.reduceBNe, Bool.true_bne, Bool.false_bne, Bool.not_true, Bool.not_false, hg0, ea] <;> with_reducible rfl); exact trivial) | rfl))
      (apply awp_lane3 (nst := false) (nst' := false) [false, false, false, false, false, false, false, false, false, false, false, false, false, false, false, false, true, false, false, false] mixedOK hΓ (n1 := 20) (by kernel_rfl) (by kernel_rfl); (focus (dsimp only [List.take_succ_cons, List.take_zero, Array.toList]; (repeat (first | (apply lane3_loud; (focus rfl); (focus rfl); (simp (disch := omega) only [go_sem, ↓reduceIte, dk, ↓lk, Int.reduceBEq, Int.reduceBNe, Bool.true_bne, Bool.false_bne, Bool.not_true, Bool.not_false, hg0, ea, look_upd] <;> with_reducible rfl); (focus (first | (simp (disch := omega) only [go_sem, ↓reduceIte, dk, ↓lk, Int.reduceBEq, Int.reduceBNe, Bool.true_bne, Bool.false_bne, Bool.not_true, Bool.not_false, hg0, ea, look_upd]; done) | (simp (disch := omega) only [go_sem, ↓reduceIte, dk, ↓lk, Int.reduceBEq, Int.reduceBNe, Bool.true_bne, Bool.false_bne, Bool.not_true, Bool.not_false, hg0, ea, look_upd]; omega)))) | (apply lane3_quiet; (simp (disch := omega) only [go_sem, ↓reduceIte, dk, ↓lk, Int.reduceBEq, Int.reduceBNe, Bool.true_bne, Bool.false_bne, Bool.not_true, Bool.not_false, hg0, ea, look_upd] <;> with_reducible rfl)))); exact lane3_nil)); (focus ((repeat' (first | exact True.intro | refine And.intro ?_ ?_)); all_goals (first | (left; decide) | (left; rfl) | (right; simp (disch := omega) only [go_sem, ↓reduceIte, dk, ↓lk, Int.reduceBEq, Int.reduceBNe, Bool.true_bne, Bool.false_bne, Bool.not_true, Bool.not_false, hg0, ea, look_upd]; try with_reducible rfl)))); (simp (disch := omega) only [go_sem, ↓reduceIte, dk, ↓lk, Int.reduceBEq, Int.reduceBNe, Bool.true_bne, Bool.false_bne, Bool.not_true, Bool.not_false, hg0, ea, look_upd] <;> with_reducible rfl))
      repeat (first
        | (apply axJ; (focus ((with_reducible constructor) <;> rfl)))
        | (apply awT mixedOK hΓ (by kernel_rfl); (simp (disch := omega) only [go_sem, ↓reduceIte, dk, ↓lk, Int.reduceBEq, Int.reduceBNe, Bool.true_bne, Bool.false_bne, Bool.not_true, Bool.not_false, hg0, ea] <;> with_reducible rfl))
        | ((first | apply awR hΓ | apply awG | apply awH mixedOK hΓ rfl (by kernel_rfl) | apply ovE rfl); (simp (disch := omega) only [go_sem, ↓reduceIte, dk, ↓lk, Int.reduceBEq, Int.reduceBNe, Bool.true_bne, Bool.false_bne, Bool.not_true, Bool.not_false, hg0, ea] <;> with_reducible rfl); exact trivial)
        | rfl)
      exact ⟨1, by omega, by omega, Weak.w⟩
    · obtain ⟨j, rfl⟩ : ∃ j, i = j + 1 := ⟨i - 1, by omega⟩
      have hlt2 := hlt hi2
      rw [getD_at _ (show j < h.length by omega), getD_at _ hi2] at hlt2
      have hg0 : decide (((j + 1 : Nat) : Int) > 0) = true := decide_eq_true (by omega)
      have hjj : ((j + 1 : Nat) : Int) - 1 = (j : Int) := by omega
      generalize hx : h[j] = x at *
      generalize hy : h[j + 1] = y at *
      (repeat (first | (apply axJ; (focus ((with_reducible constructor) <;> rfl))) | ((first | apply awR hΓ | apply awG | apply ovE rfl); (simp (disch := omega) only [go_sem, ↓reduceIte, dk, ↓lk, Int.reduceBEq, Int.reduceBNe, Bool.true_bne, Bool.false_bne, Bool.not_true, Bool.not_false, hg0, hjj, hx, hy, hlt2, ea] <;> with_reducible rfl); exact trivial) | rfl))
      (apply awp_lane3 (nst := false) (nst' := false) [false, false, false, false, false, false, false, false, false, false, false, false, false, false, false, false, true, false, false, false] mixedOK hΓ (n1 := 20) (by kernel_rfl) (by kernel_rfl); (focus (dsimp only [List.take_succ_cons, List.take_zero, Array.toList]; (repeat (first | (apply lane3_loud; (focus rfl); (focus rfl); (simp (disch := omega) only [go_sem, ↓reduceIte, dk, ↓lk, Int.reduceBEq, Int.reduceBNe, Bool.true_bne, Bool.false_bne, Bool.not_true, Bool.not_false, hg0, hjj, hx, hy, hlt2, ea, look_upd] <;> with_reducible rfl); (focus (first | (simp (disch := omega) only [go_sem, ↓reduceIte, dk, ↓lk, Int.reduceBEq, Int.reduceBNe, Bool.true_bne, Bool.false_bne, Bool.not_true, Bool.not_false, hg0, hjj, hx, hy, hlt2, ea, look_upd]; done) | (simp (disch := omega) only [go_sem, ↓reduceIte, dk, ↓lk, Int.reduceBEq, Int.reduceBNe, Bool.true_bne, Bool.false_bne, Bool.not_true, Bool.not_false, hg0, hjj, hx, hy, hlt2, ea, look_upd]; omega)))) | (apply lane3_quiet; (simp (disch := omega) only [go_sem, ↓reduceIte, dk, ↓lk, Int.reduceBEq, Int.reduceBNe, Bool.true_bne, Bool.false_bne, Bool.not_true, Bool.not_false, hg0, hjj, hx, hy, hlt2, ea, look_upd] <;> with_reducible rfl)))); exact lane3_nil)); (focus ((repeat' (first | exact True.intro | refine And.intro ?_ ?_)); all_goals (first | (left; decide) | (left; rfl) | (right; simp (disch := omega) only [go_sem, ↓reduceIte, dk, ↓lk, Int.reduceBEq, Int.reduceBNe, Bool.true_bne, Bool.false_bne, Bool.not_true, Bool.not_false, hg0, hjj, hx, hy, hlt2, ea, look_upd]; try with_reducible rfl)))); (simp (disch := omega) only [go_sem, ↓reduceIte, dk, ↓lk, Int.reduceBEq, Int.reduceBNe, Bool.true_bne, Bool.false_bne, Bool.not_true, Bool.not_false, hg0, hjj, hx, hy, hlt2, ea, look_upd] <;> with_reducible rfl))
      repeat (first
        | (apply axJ; (focus ((with_reducible constructor) <;> rfl)))
        | (apply awT mixedOK hΓ (by kernel_rfl); (simp (disch := omega) only [go_sem, ↓reduceIte, dk, ↓lk, Int.reduceBEq, Int.reduceBNe, Bool.true_bne, Bool.false_bne, Bool.not_true, Bool.not_false, hg0, hjj, hx, hy, hlt2, ea] <;> with_reducible rfl))
        | ((first | apply awR hΓ | apply awG | apply awH mixedOK hΓ rfl (by kernel_rfl) | apply ovE rfl); (simp (disch := omega) only [go_sem, ↓reduceIte, dk, ↓lk, Int.reduceBEq, Int.reduceBNe, Bool.true_bne, Bool.false_bne, Bool.not_true, Bool.not_false, hg0, hjj, hx, hy, hlt2, ea] <;> with_reducible rfl); exact trivial)
        | rfl)
      exact ⟨j + 1 + 1, by omega, by omega, Weak.w⟩
  have hi3 : i = h.length := by omega
  subst hi3
  repeat (first
    | (apply axJ; (focus ((with_reducible constructor) <;> rfl)))
    | (apply awT mixedOK hΓ (by kernel_rfl); (simp (disch := omega) only [go_sem, ↓reduceIte, dk, ↓lk, Int.reduceBEq, Int.reduceBNe, Bool.true_bne, Bool.false_bne, Bool.not_true, Bool.not_false] <;> with_reducible rfl))
    | ((first | apply awR hΓ | apply awG | apply awH mixedOK hΓ rfl (by kernel_rfl) | apply ovE rfl); (simp (disch := omega) only [go_sem, ↓reduceIte, dk, ↓lk, Int.reduceBEq, Int.reduceBNe, Bool.true_bne, Bool.false_bne, Bool.not_true, Bool.not_false] <;> with_reducible rfl); exact trivial)
    | rfl)
  refine awp_loop_at (X := Nat) (fun i => (frame 66 [(3, .ptr 8 0), (4, .row 11 l.length), (45, .data (.list (l.map eHd))), (46, .data (i64 l.length)), (47, .data (i64 i))])) (fun _ => [(8, .box [.data (.list (h.map .str))]), (11, .row 26 3 (l.reverse.map eHd))]) 30
    (fun i => i ≤ l.length) (fun i => l.length - i) 0 (Nat.zero_le _) (Weak.w) ?_
  intro i hi
  (try dsimp only at hi ⊢)
  by_cases hi2 : i < l.length
  · have hc1 := @hcon l[i] (List.getElem_mem hi2)
    have e7 := g_sCon36_eq (l := h) (s := l[i].text) (by omega)
    generalize hy : l[i] = y at *
    by_cases hk : y.kind = 1
    · rw [hc1 hk] at e7
      have hkb : (y.kind == 1) = true := by simp [hk]
      repeat (first
        | (apply axJ; (focus ((with_reducible constructor) <;> rfl)))
        | (apply awT mixedOK hΓ (by kernel_rfl); (simp (disch := omega) only [go_sem, ↓reduceIte, dk, ↓lk, Int.reduceBEq, Int.reduceBNe, Bool.true_bne, Bool.false_bne, Bool.not_true, Bool.not_false, hy, hkb, e7, eHd_eq] <;> with_reducible rfl))
        | ((first | apply awR hΓ | apply awG | apply awH mixedOK hΓ rfl (by kernel_rfl) | apply ovE rfl); (simp (disch := omega) only [go_sem, ↓reduceIte, dk, ↓lk, Int.reduceBEq, Int.reduceBNe, Bool.true_bne, Bool.false_bne, Bool.not_true, Bool.not_false, hy, hkb, e7, eHd_eq] <;> with_reducible rfl); exact trivial)
        | rfl)
      exact ⟨i + 1, by omega, by omega, Weak.w⟩
    · have hkb : (y.kind == 1) = false := by simpa using hk
      repeat (first
        | (apply axJ; (focus ((with_reducible constructor) <;> rfl)))
        | (apply awT mixedOK hΓ (by kernel_rfl); (simp (disch := omega) only [go_sem, ↓reduceIte, dk, ↓lk, Int.reduceBEq, Int.reduceBNe, Bool.true_bne, Bool.false_bne, Bool.not_true, Bool.not_false, hy, hkb, eHd_eq] <;> with_reducible rfl))
        | ((first | apply awR hΓ | apply awG | apply awH mixedOK hΓ rfl (by kernel_rfl) | apply ovE rfl); (simp (disch := omega) only [go_sem, ↓reduceIte, dk, ↓lk, Int.reduceBEq, Int.reduceBNe, Bool.true_bne, Bool.false_bne, Bool.not_true, Bool.not_false, hy, hkb, eHd_eq] <;> with_reducible rfl); exact trivial)
        | rfl)
      exact ⟨i + 1, by omega, by omega, Weak.w⟩
  have hi3 : i = l.length := by omega
  subst hi3
  (repeat (first | (apply axJ; (focus ((with_reducible constructor) <;> rfl))) | ((first | apply awR hΓ | apply awG | apply ovE rfl); (simp (disch := omega) only [go_sem, ↓reduceIte, dk, ↓lk, Int.reduceBEq, Int.reduceBNe, Bool.true_bne, Bool.false_bne, Bool.not_true, Bool.not_false] <;> with_reducible rfl); exact trivial) | rfl))
  (apply awp_lane3 (nst := false) (nst' := false) [false, true, false, false, false] mixedOK hΓ (n1 := 5) (by kernel_rfl) (by kernel_rfl); (focus (dsimp only [List.take_succ_cons, List.take_zero, Array.toList]; (repeat (first | (apply lane3_loud; (focus rfl); (focus rfl); (simp (disch := omega) only [go_sem, ↓reduceIte, dk, ↓lk, Int.reduceBEq, Int.reduceBNe, Bool.true_bne, Bool.false_bne, Bool.not_true, Bool.not_false, e5, e6, List.length_reverse, List.length_map, look_upd] <;> with_reducible rfl); (focus (first | (simp (disch := omega) only [go_sem, ↓reduceIte, dk, ↓lk, Int.reduceBEq, Int.reduceBNe, Bool.true_bne, Bool.false_bne, Bool.not_true, Bool.not_false, e5, e6, List.length_reverse, List.length_map, look_upd]; done) | (simp (disch := omega) only [go_sem, ↓reduceIte, dk, ↓lk, Int.reduceBEq, Int.reduceBNe, Bool.true_bne, Bool.false_bne, Bool.not_true, Bool.not_false, e5, e6, List.length_reverse, List.length_map, look_upd]; omega)))) | (apply lane3_quiet; (simp (disch := omega) only [go_sem, ↓reduceIte, dk, ↓lk, Int.reduceBEq, Int.reduceBNe, Bool.true_bne, Bool.false_bne, Bool.not_true, Bool.not_false, e5, e6, List.length_reverse, List.length_map, look_upd] <;> with_reducible rfl)))); exact lane3_nil)); (focus ((repeat' (first | exact True.intro | refine And.intro ?_ ?_)); all_goals (first | (left; decide) | (left; rfl) | (right; simp (disch := omega) only [go_sem, ↓reduceIte, dk, ↓lk, Int.reduceBEq, Int.reduceBNe, Bool.true_bne, Bool.false_bne, Bool.not_true, Bool.not_false, e5, e6, List.length_reverse, List.length_map, look_upd]; try with_reducible rfl)))); (simp (disch := omega) only [go_sem, ↓reduceIte, dk, ↓lk, Int.reduceBEq, Int.reduceBNe, Bool.true_bne, Bool.false_bne, Bool.not_true, Bool.not_false, e5, e6, List.length_reverse, List.length_map, look_upd] <;> with_reducible rfl))
  repeat (first
    | (apply axJ; (focus ((with_reducible constructor) <;> rfl)))
    | (apply awT mixedOK hΓ (by kernel_rfl); (simp (disch := omega) only [go_sem, ↓reduceIte, dk, ↓lk, Int.reduceBEq, Int.reduceBNe, Bool.true_bne, Bool.false_bne, Bool.not_true, Bool.not_false] <;> with_reducible rfl))
    | ((first | apply awR hΓ | apply awG | apply awH mixedOK hΓ rfl (by kernel_rfl) | apply ovE rfl); (simp (disch := omega) only [go_sem, ↓reduceIte, dk, ↓lk, Int.reduceBEq, Int.reduceBNe, Bool.true_bne, Bool.false_bne, Bool.not_true, Bool.not_false] <;> with_reducible rfl); exact trivial)
    | rfl)
  try rfl
end Go.Ab
namespace Go.Ab
open Go Go.RowKit Go.Proofs
set_option maxRecDepth 4000
set_option maxHeartbeats 4000000
theorem lxs_reads {H : Type} {enc : TypeId × Value → H} {P : Program} {w : World} {t : TypeId} (hf : lxsFits P t = true) (fuel : Nat) (c3 : Value) (y3 : DataW H × List MemPlace) (hy3 : DataW.trod enc P w 0 (fun _ => true) true fuel t [c3] = some y3) :
    ∃ l : List LX, (∀ x ∈ l, x.Bd (bulk y3.1)) ∧ LX.size.sizes l + 1 ≤ bulk y3.1 ∧ CellsR w [.list (l.map eX)] [c3] := by
  cases fuel with
  | zero => simp [DataW.trod] at hy3
  | succ fuel =>
  unfold lxsFits at hf
  split at hf <;> try (cases hf; done)
  rename_i e hs
  simp only [Bool.and_eq_true, beq_iff_eq] at hf
  obtain ⟨hf, z4⟩ := hf
  unfold DataW.trod at hy3
  rw [hs] at hy3
  split at hy3 <;> first | (cases ‹some (TypeDesc.slice e) = some _›; done) | skip
  · rename_i h2
    cases h2
    refine ⟨[], fun x hx => (by cases hx), ?_, rfl, fun i hi u hu => ?_⟩
    · have := bulk_pos y3.1; simp only [LX.size.sizes]; omega
    · have hi0 : i = 0 := by simp at hi; omega
      subst hi0
      simp at hu
      subst hu
      exact .empty none 0
  · rename_i e1 a len cap h3 h2
    cases h2
    cases h3
    split at hy3
    · rename_i hc3
      simp only [Option.bind_eq_some_iff, Option.map_eq_some_iff] at hy3
      obtain ⟨elems, he, rest, hr, hdp⟩ := hy3
      obtain ⟨y3a, y3b⟩ := y3
      simp only [Prod.mk.injEq] at hdp
      obtain ⟨rfl, rfl⟩ := hdp
      obtain ⟨hel, hget⟩ := mapM_range he
      rw [z4] at hget
      have hR := slice_readsG (w := w) (len := len) (cap := cap) (sz := 4) (a := a) (pk := D.agg)
        (R := fun i ds => ∃ x : LX, ds = cellsX x ∧ ∃ hi : i < elems.length, x.Bd (bulk (elems[i]).1))
        (fun i ds hd => by
          obtain ⟨x, rfl, _⟩ := hd
          refine ⟨rfl, rfl, fun d hd => ?_⟩
          simp only [cellsX, List.mem_cons, List.not_mem_nil, or_false] at hd
          rcases hd with rfl | rfl | rfl | rfl <;> rfl)
        (by decide) hc3.2.1 (fun i hi => by
          have h2 := hget i hi (by omega)
          simp only [Option.bind_eq_some_iff] at h2
          obtain ⟨ci, h3, h4⟩ := h2
          obtain ⟨x, h5, h6⟩ := lx_reads hf fuel ci _ _ h4
          exact ⟨ci, cellsX x, h3, ⟨x, rfl, by omega, h5⟩, h6⟩)
        (fun h0 => by
          have h2 := hget 0 h0 (by omega)
          simp only [Option.bind_eq_some_iff] at h2
          obtain ⟨ci, h3, _⟩ := h2
          have := World.cells?_block h3 (by omega)
          rw [block_add] at this
          exact this)
      obtain ⟨ls, h5, h6, h7⟩ := hR
      have hch : ∃ l : List LX, l.length = ls.length ∧ ∀ i (hi : i < ls.length) (hi2 : i < l.length), ls[i] = cellsX l[i] ∧ ∃ hi : i < elems.length, (l[i]).Bd (bulk (elems[i]).1) := by
        have pick : ∀ i (hi : i < ls.length), ∃ x : LX, ls[i] = cellsX x ∧ ∃ hi : i < elems.length, x.Bd (bulk (elems[i]).1) := h6
        refine ⟨List.ofFn fun i : Fin ls.length => (pick i i.2).choose, by simp, fun i hi hi2 => ?_⟩
        simp only [List.getElem_ofFn]
        exact (pick i hi).choose_spec
      obtain ⟨l, hl, hsp⟩ := hch
      have hmap : ls.map D.agg = l.map eX := by
        apply List.ext_getElem (by simp [hl])
        intro i h1 h2
        simp only [List.length_map] at h1 h2
        simp only [List.getElem_map]
        rw [(hsp i h1 h2).1, cellsX_eq]
      rw [hmap] at h7
      have hsz : LX.size.sizes l ≤ bulkAll (elems.map (·.1)) := sizes_bulk l _ (by simp [hl, h5, hel]) (fun i h1 h2 => by
        obtain ⟨_, h8⟩ := (hsp i (by omega) h1).2
        simpa using h8.z)
      refine ⟨l, fun x hx => ?_, ?_, h7⟩
      · obtain ⟨i, hi, rfl⟩ := List.mem_iff_getElem.1 hx
        obtain ⟨hi3, h8⟩ := (hsp i (by omega) hi).2
        refine bd_mono' ?_ h8
        have := bulk_mem (List.mem_map.2 ⟨elems[i], List.getElem_mem _, rfl⟩ : elems[i].1 ∈ elems.map (·.1))
        simp only [bulk]
        omega
      · simp only [bulk]
        omega
    · cases hy3
  · cases hy3
theorem sizes_len : ∀ l : List LX, l.length ≤ LX.size.sizes l
  | [] => Nat.zero_le _
  | x :: l => by
    have h1 := sizes_len l
    have h2 := x.size_pos
    rw [LX.size.sizes, List.length_cons]
    omega
theorem rd_lxs {P : Program} {t : TypeId} (hf : lxsFits P t = true) : Rd P t RXs := fun H enc W base n v d ps h hv hb => by
  obtain ⟨fuel, h⟩ := h
  have ho : v.oneCell' = true := by
    unfold lxsFits at hf
    split at hf <;> try (cases hf; done)
    rename_i e hu
    simp only [Value.okWide, hu, Cell.okWide] at hv
    cases v <;> simp_all [Cell.ok, Value.oneCell']
  have hvc : v.cells.toList = [v] := by cases v <;> simp_all [Value.cells, Value.oneCell']
  rw [hvc] at h
  obtain ⟨l, h1, h2, h3⟩ := lxs_reads hf fuel v (d, ps) h
  have hl := sizes_len l
  refine ⟨_, ⟨l, by dsimp only at h2; omega, fun x hx => bd_mono' hb (h1 x hx), rfl⟩, ?_⟩
  have := h3.2 0 (by simp) v rfl
  simpa using this
end Go.Ab
