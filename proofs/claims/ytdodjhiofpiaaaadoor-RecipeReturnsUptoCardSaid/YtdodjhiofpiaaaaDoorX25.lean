/-
  One text of the proof (own work): contracts of functions of the program, by the abstract machine.
-/
import Derived.Test.YtdodjhiofpiaaaaDoorX24
import Derived.Test.YtdodjhiofpiaaaaDoorX19
set_option linter.unusedVariables false
set_option linter.unusedSimpArgs false
namespace Go.Ab
open Go Go.RowKit Go.Proofs
set_option maxRecDepth 10000
set_option maxHeartbeats 8000000
def joinT : List Bs → Bs
  | [] => []
  | w :: r => [10] ++ w ++ joinT r
theorem joinT_append (a b : List Bs) : joinT (a ++ b) = joinT a ++ joinT b := by
  induction a with
  | nil => rfl
  | cons g a ih => rw [List.cons_append, joinT, ih, joinT]; simp
theorem joinT_step {l : List Bs} {i : Nat} (hi : i < l.length) : joinT (l.take (i + 1)) = joinT (l.take i) ++ [10] ++ l[i] := by
  rw [List.take_add_one, List.getElem?_eq_getElem hi, joinT_append]
  simp [joinT]
theorem joinT_le (l : List Bs) (i : Nat) : (joinT (l.take i)).length ≤ (joinT l).length := by
  conv => rhs; rw [← List.take_append_drop i l, joinT_append]
  rw [List.length_append]
  omega
theorem joinT_len : ∀ l : List Bs, l.length ≤ (joinT l).length
  | [] => Nat.le_refl _
  | w :: r => by
    have := joinT_len r
    rw [joinT]
    simp only [List.length_append, List.length_cons, List.length_nil]
    omega
theorem joinT_mem : ∀ {l : List Bs} {w : Bs}, w ∈ l → w.length ≤ (joinT l).length
  | v :: r, w, h => by
    rw [joinT]
    simp only [List.length_append]
    rcases List.mem_cons.1 h with rfl | h
    · omega
    · have := joinT_mem h; omega
def oneL (w : Bs) : Bool := ((splitB 10 w).length : Int) == 1
def joinR : List Bs → Bs × Int
  | [] => ([], 1)
  | w :: r => if (w :: r).all oneL then (if decide (((r.length + 1 : Nat) : Int) > 1024) || decide (((w ++ joinT r).length : Int) > 65536) then ([], 10) else (w ++ joinT r, 0)) else ([], 1)
def eSE (p : Bs × Int) : D := .tup [.str p.1, i64 p.2]
end Go.Ab
namespace Go.Ab
open Go Go.RowKit Go.Proofs
set_option maxRecDepth 10000
set_option maxHeartbeats 8000000
theorem joinT_bd (M : Nat) : ∀ (l : List Bs), (∀ w ∈ l, w.length ≤ M) → (joinT l).length ≤ (M + 1) * l.length
  | [], _ => by simp [joinT]
  | w :: l, h => by
    have h1 := h w (by simp)
    have h2 := joinT_bd M l (fun x hx => h x (by simp [hx]))
    rw [joinT]
    simp only [List.length_append, List.length_cons, List.length_nil, Nat.mul_add]
    omega
def prGo (acc : List Bs) : List Stp → Option (List Bs)
  | [] => some acc
  | x :: r => if checkR x == 0 && !decide (x.line < acc.length) then prGo (acc ++ List.replicate (x.line.toNat - acc.length) [] ++ [textS x]) r else none
theorem prGo_drop {l : List Stp} {i : Nat} {acc : List Bs} (hi : i < l.length) : prGo acc (l.drop i) =
    if checkR l[i] == 0 && !decide (l[i].line < acc.length) then prGo (acc ++ List.replicate (l[i].line.toNat - acc.length) [] ++ [textS l[i]]) (l.drop (i + 1)) else none := by
  rw [List.drop_eq_getElem_cons hi, prGo]
end Go.Ab
namespace Go.Ab
open Go Go.RowKit Go.Proofs
set_option maxRecDepth 10000
set_option maxHeartbeats 8000000
def idxB (l : List Bs) (s : Bs) : Int := if hasB l s then ((l.findIdx (· == s) : Nat) : Int) else -1
noncomputable def g_sIndex : List D → Option D := encSpec (fun x : (List Bs) × Bs => [.list (x.1.map .str), .str x.2]) (fun x : (List Bs) × Bs => x.1.length ≤ 1099511627776) (fun x : (List Bs) × Bs => i64 (idxB x.1 x.2))
theorem g_sIndex_eq {l : List Bs} {s : Bs} (hd : l.length ≤ 1099511627776) : g_sIndex [.list (l.map .str), .str s] = some (i64 (idxB l s)) := encSpec_eq (x := (l, s)) hd fun y hy => by
    obtain ⟨y0, y1⟩ := y; simp only [List.cons.injEq, and_true, true_and, D.str.injEq, D.int.injEq, D.list.injEq, D.bool.injEq, D.agg.injEq, D.clo.injEq, Int.natCast_inj, inj_ie] at hy
    (try obtain ⟨rfl, rfl⟩ := hy)
    (try subst_vars)
    rfl
theorem f_sIndex_ok : PureOK Tryd.prog 61 true g_sIndex := by
  have hΓ := Γ0_ok
  refine pure_enc (n := 19) (rs := [.tmp 4]) Tryd.func61 (by kernel_rfl) rfl (by kernel_rfl) (by kernel_rfl) ?_
  rintro ⟨l, s⟩ hd
  (try dsimp only at hd ⊢)
  refine ⟨fun _ => by (repeat (first | exact .int _ _ | exact .bool _ | exact .str _ | (refine .tup _ (fun d hd => ?_); simp only [List.mem_cons, List.not_mem_nil, or_false] at hd; rcases hd with rfl | hd))), fun k hz0 => ?_⟩
  unfold idxB
  rw [start_frame (by simp)]; simp only [enumV, go_sem, emptyH]
  repeat (first
    | (apply axJ; (focus ((with_reducible constructor) <;> rfl)))
    | (apply awT mixedOK hΓ (by kernel_rfl); (simp (disch := omega) only [go_sem, ↓reduceIte, dk, ↓lk] <;> with_reducible rfl))
    | ((first | apply awR hΓ | apply awG | apply awH mixedOK hΓ rfl (by kernel_rfl) | apply ovE rfl); (simp (disch := omega) only [go_sem, ↓reduceIte, dk, ↓lk] <;> with_reducible rfl); exact trivial)
    | rfl)
  refine awp_loop_at (X := Nat) (fun i => (frame 19 [(0, .data (.list (l.map .str))), (1, .data (.str s)), (7, .data (i64 l.length)), (8, .data (i64 i))])) (fun _ => []) 10
    (fun i => i ≤ l.length ∧ (l.take i).any (· == s) = false) (fun i => l.length - i) 0 ⟨Nat.zero_le _, rfl⟩ (Weak.w) ?_
  rintro i ⟨hi, hp⟩
  by_cases hi2 : i < l.length
  · have hno := fun h => any_next (p := (· == s)) hi2 hp h
    have hyes := fun h => any_yes (p := (· == s)) hi2 h
    have hfi : l[i] == s → l.findIdx (· == s) = i := fun h => by
      rw [List.findIdx_eq hi2]
      refine ⟨h, fun j hj => ?_⟩
      rw [List.any_eq_false] at hp
      have := hp l[j] (List.mem_take_iff_getElem.2 ⟨j, by omega, rfl⟩)
      simpa using this
    generalize hy : l[i] = y at *
    have hsy : (s == y) = (y == s) := by rw [Bool.eq_iff_iff]; simp only [beq_iff_eq]; exact eq_comm
    generalize hc : (y == s) = c at *
    cases c
    · repeat (first
      | (apply axJ; (focus ((with_reducible constructor) <;> rfl)))
      | (apply awT mixedOK hΓ (by kernel_rfl); (simp (disch := omega) only [go_sem, ↓reduceIte, dk, ↓lk, hy, hc, hsy] <;> with_reducible rfl))
      | ((first | apply awR hΓ | apply awG | apply awH mixedOK hΓ rfl (by kernel_rfl) | apply ovE rfl); (simp (disch := omega) only [go_sem, ↓reduceIte, dk, ↓lk, hy, hc, hsy] <;> with_reducible rfl); exact trivial)
      | rfl)
      exact ⟨i + 1, ⟨by omega, hno rfl⟩, by omega, Weak.w⟩
    · unfold hasB
      rw [hyes rfl, hfi rfl]
      repeat (first
        | (apply axJ; (focus ((with_reducible constructor) <;> rfl)))
        | (apply awT mixedOK hΓ (by kernel_rfl); (simp (disch := omega) only [go_sem, ↓reduceIte, dk, ↓lk, hy, hc, hsy] <;> with_reducible rfl))
        | ((first | apply awR hΓ | apply awG | apply awH mixedOK hΓ rfl (by kernel_rfl) | apply ovE rfl); (simp (disch := omega) only [go_sem, ↓reduceIte, dk, ↓lk, hy, hc, hsy] <;> with_reducible rfl); exact trivial)
        | rfl)
      try rfl
  · have hi3 : i = l.length := by omega
    subst hi3
    rw [List.take_length] at hp
    unfold hasB
    rw [hp]
    repeat (first
      | (apply axJ; (focus ((with_reducible constructor) <;> rfl)))
      | (apply awT mixedOK hΓ (by kernel_rfl); (simp (disch := omega) only [go_sem, ↓reduceIte, dk, ↓lk] <;> with_reducible rfl))
      | ((first | apply awR hΓ | apply awG | apply awH mixedOK hΓ rfl (by kernel_rfl) | apply ovE rfl); (simp (disch := omega) only [go_sem, ↓reduceIte, dk, ↓lk] <;> with_reducible rfl); exact trivial)
      | rfl)
    try rfl
noncomputable def g_sCont : List D → Option D := encSpec (fun x : (List Bs) × Bs => [.list (x.1.map .str), .str x.2]) (fun x : (List Bs) × Bs => x.1.length ≤ 1099511627776) (fun x : (List Bs) × Bs => .bool (hasB x.1 x.2))
theorem g_sCont_eq {l : List Bs} {s : Bs} (hd : l.length ≤ 1099511627776) : g_sCont [.list (l.map .str), .str s] = some (.bool (hasB l s)) := encSpec_eq (x := (l, s)) hd fun y hy => by
    obtain ⟨y0, y1⟩ := y; simp only [List.cons.injEq, and_true, true_and, D.str.injEq, D.int.injEq, D.list.injEq, D.bool.injEq, D.agg.injEq, D.clo.injEq, Int.natCast_inj, inj_ie] at hy
    (try obtain ⟨rfl, rfl⟩ := hy)
    (try subst_vars)
    rfl
theorem f_sCont_ok : PureOK Tryd.prog 42 true g_sCont := by
  have hΓ := Γp f_sIndex_ok (Γn)
  refine pure_enc (n := 9) (rs := [.tmp 4]) Tryd.func42 (by kernel_rfl) rfl (by kernel_rfl) (by kernel_rfl) ?_
  rintro ⟨l, s⟩ hd
  (try dsimp only at hd ⊢)
  refine ⟨fun _ => by (repeat (first | exact .int _ _ | exact .bool _ | exact .str _ | (refine .tup _ (fun d hd => ?_); simp only [List.mem_cons, List.not_mem_nil, or_false] at hd; rcases hd with rfl | hd))), fun k hz0 => ?_⟩
  have e1 := g_sIndex_eq (l := l) (s := s) hd
  unfold idxB at e1
  generalize l.findIdx (· == s) = n at *
  rw [start_frame (by simp)]; simp only [enumV, go_sem, emptyH]
  generalize hasB l s = c at *
  cases c
  · simp only [Bool.false_eq_true, if_false] at e1
    repeat (first
      | (apply axJ; (focus ((with_reducible constructor) <;> rfl)))
      | (apply awT mixedOK hΓ (by kernel_rfl); (simp (disch := omega) only [go_sem, ↓reduceIte, dk, ↓lk, e1] <;> with_reducible rfl))
      | ((first | apply awR hΓ | apply awG | apply awH mixedOK hΓ rfl (by kernel_rfl) | apply ovE rfl); (simp (disch := omega) only [go_sem, ↓reduceIte, dk, ↓lk, e1] <;> with_reducible rfl); exact trivial)
      | rfl)
    try rfl
  · simp only [if_true] at e1
    repeat (first
      | (apply axJ; (focus ((with_reducible constructor) <;> rfl)))
      | (apply awT mixedOK hΓ (by kernel_rfl); (simp (disch := omega) only [go_sem, ↓reduceIte, dk, ↓lk, e1] <;> with_reducible rfl))
      | ((first | apply awR hΓ | apply awG | apply awH mixedOK hΓ rfl (by kernel_rfl) | apply ovE rfl); (simp (disch := omega) only [go_sem, ↓reduceIte, dk, ↓lk, e1] <;> with_reducible rfl); exact trivial)
      | rfl)
    try rfl
noncomputable def g_sepP : List D → Option D := encSpec (fun x : Bs => [.str x]) (fun x : Bs => x.length ≤ 1099511627776) (fun x : Bs => .bool (isSep x))
theorem g_sepP_eq {s : Bs} (hd : s.length ≤ 1099511627776) : g_sepP [.str s] = some (.bool (isSep s)) := encSpec_eq (x := s) hd fun y hy => by
    simp only [List.cons.injEq, and_true, true_and, D.str.injEq, D.int.injEq, D.list.injEq, D.bool.injEq, D.agg.injEq, D.clo.injEq, Int.natCast_inj, inj_ie] at hy
    rw [hy]
theorem f_sepP_ok : PureOK Tryd.prog 65 false g_sepP := by
  have hΓ := Γp f_sCont_ok (Γn)
  refine pure_enc (n := 6) (rs := [.tmp 2]) Tryd.func65 (by kernel_rfl) rfl (by kernel_rfl) (by kernel_rfl) ?_
  rintro s hd
  (try dsimp only at hd ⊢)
  refine ⟨fun h => (by cases h), fun k hz0 => ?_⟩
  have e1 := g_sCont_eq (l := sepWords) (s := s) (by decide)
  simp only [sepWords, List.map_cons, List.map_nil] at e1
  rw [show hasB [[116, 111], [119, 105, 116, 104], [117, 115, 105, 110, 103], [111, 110], [97, 115]] s = isSep s from rfl] at e1
  rw [start_frame (by simp)]; simp only [enumV, go_sem, emptyH]
  repeat (first
    | (apply axJ; (focus ((with_reducible constructor) <;> rfl)))
    | (apply awT mixedOK hΓ (by kernel_rfl); (simp (disch := omega) only [go_sem, ↓reduceIte, dk, ↓lk, e1] <;> with_reducible rfl))
    | ((first | apply awR hΓ | apply awG | apply awH mixedOK hΓ rfl (by kernel_rfl) | apply ovE rfl); (simp (disch := omega) only [go_sem, ↓reduceIte, dk, ↓lk, e1] <;> with_reducible rfl); exact trivial)
    | rfl)
  try rfl
noncomputable def g_groups : List D → Option D := encSpec (fun x : (List Bs) => [.list (x.map .str)]) (fun x : (List Bs) => x.length ≤ 1000000000 ∧ ∀ w ∈ x, w.length ≤ 1099511627776) (fun x : (List Bs) => .list ((gList [] x).map eGp))
theorem g_groups_eq {l : List Bs} (hd : l.length ≤ 1000000000 ∧ ∀ w ∈ l, w.length ≤ 1099511627776) : g_groups [.list (l.map .str)] = some (.list ((gList [] l).map eGp)) := encSpec_eq (x := l) hd fun y hy => by
    simp only [List.cons.injEq, and_true, true_and, D.str.injEq, D.int.injEq, D.list.injEq, D.bool.injEq, D.agg.injEq, D.clo.injEq, Int.natCast_inj, inj_ie] at hy
    rw [hy]
theorem f_groups_ok : PureOK Tryd.prog 44 false g_groups := by
  have hΓ := Γp f_sepP_ok (Γn)
  refine pure_enc (n := 39) (rs := [.tmp 2]) Tryd.func44 (by kernel_rfl) rfl (by kernel_rfl) (by kernel_rfl) ?_
  rintro l hd
  (try dsimp only at hd ⊢)
  refine ⟨fun h => (by cases h), fun k hz0 => ?_⟩
  obtain ⟨hl, hw⟩ := hd
  rw [start_frame (by simp)]; simp only [enumV, go_sem, emptyH]
  repeat (first
    | (apply axJ; (focus ((with_reducible constructor) <;> rfl)))
    | (apply awT mixedOK hΓ (by kernel_rfl); (simp (disch := omega) only [go_sem, ↓reduceIte, ↓lk, dk, Int.reduceToNat, List.getElem?_cons_zero, List.getElem?_cons_succ, ↓ty_build82, zeroLoose, partsLoose, arrRep] <;> with_reducible rfl))
    | ((first | apply awN hΓ | apply awG | apply awH mixedOK hΓ rfl (by kernel_rfl) | apply ovE rfl); (simp (disch := omega) only [go_sem, ↓reduceIte, ↓lk, dk, Int.reduceToNat, List.getElem?_cons_zero, List.getElem?_cons_succ, ↓ty_build82, zeroLoose, partsLoose, arrRep] <;> with_reducible rfl); exact trivial)
    | rfl)
  refine awp_loop_at (X := Nat) (fun i => (frame 39 [(3, .row 0 ((gAll [] (l.take i)).1.length + 1)), (9, .data (.list (l.map .str))), (10, .data (i64 l.length)), (11, .data (i64 i))]))
    (fun i => [(0, .arr 82 2 ((gAll [] (l.take i)).1.length + 1) (cG (gAll [] (l.take i)).1 ++ [.data (.str (gAll [] (l.take i)).2.name), .row 1 (gAll [] (l.take i)).2.words.length])), (1, .row 9 1 ((gAll [] (l.take i)).2.words.map .str))]) 2
    (fun i => i ≤ l.length) (fun i => l.length - i) 0 (Nat.zero_le _)
    ((Weak.arrnil (o := 2) (i := 1) 9 (sz := 1) (by omega) rfl rfl).trans (Weak.trans (s2 := (frame 39 [(3, .row 2 1), (9, .data (.list (l.map .str))), (10, .data (i64 l.length)), (11, .data (i64 0))])) (H2 := ⟨[(2, .arr 82 2 1 [.data (.str []), .row 7 0]), (7, .row 9 1 [])], 8⟩) (Weak.ofF (by omega) (by (simp [ConvF, lookV, Conv, ints, upd, List.set]; done)) (by (simp (disch := omega) only [TabSub, look, if_pos, if_neg, Obj.refsOK, refsOKs, AV.refsOK, decide_eq_true_eq, Bool.and_true, Bool.and_self, upd, List.set] ) <;> ((repeat' apply And.intro) <;> first | exact True.intro | omega | (simp; done) | rfl)) (by simp (disch := omega) only [refsF, refsOKs, AV.refsOK, Bool.and_true, Bool.and_self, decide_eq_true_eq, Bool.true_and, Bool.and_eq_true]; (repeat' apply And.intro) <;> omega)) (Weak.packd (os := [.arr 82 2 1 [.data (.str []), .row 1 0], .row 9 1 ([] : List D)]) (fp := [2, 7]) rfl rfl (by intro i hi; omega) rfl rfl))) ?_
  intro i hi
  (try dsimp only at hi ⊢)
  obtain ⟨z1, z2⟩ := gAll_bd [] (l.take i)
  have z3 : (l.take i).length ≤ 1099511627776 := by rw [List.length_take]; omega
  by_cases hi2 : i < l.length
  · have hst := gAll_step (nm := []) hi2
    have e1 := g_sepP_eq (s := l[i]) (hw _ (List.getElem_mem hi2))
    generalize hy : l[i] = w at *
    generalize gAll [] (l.take i) = p at *
    obtain ⟨gs, ⟨n0, w0⟩⟩ := p
    dsimp only at z1 z2 hst ⊢
    unfold gstep at hst
    have hcl := cG_len gs
    generalize isSep w = c at *
    have hix : ((gs.length + 1 : Nat) : Int) - 1 = (gs.length : Int) := by omega
    cases c
    · simp only [Bool.false_eq_true, if_false] at hst
      repeat (first
        | (apply axJ; (focus ((with_reducible constructor) <;> rfl)))
        | (apply awT mixedOK hΓ (by kernel_rfl); (simp (disch := omega) only [go_sem, ↓reduceIte, ↓lk, dk, Int.reduceToNat, List.getElem?_cons_zero, List.getElem?_cons_succ, ↓ty_build82, hy, e1, hix, cG_drop, cG_lay, zeroLoose, partsLoose, arrRep] <;> with_reducible rfl))
        | ((first | apply awN hΓ | apply awG | apply awH mixedOK hΓ rfl (by kernel_rfl) | apply ovE rfl); (simp (disch := omega) only [go_sem, ↓reduceIte, ↓lk, dk, Int.reduceToNat, List.getElem?_cons_zero, List.getElem?_cons_succ, ↓ty_build82, hy, e1, hix, cG_drop, cG_lay, zeroLoose, partsLoose, arrRep] <;> with_reducible rfl); exact trivial)
        | rfl)
      refine ⟨i + 1, by omega, by omega, ?_⟩
      rw [hst]
      dsimp only
      have hm : (w0 ++ [w]).map D.str = w0.map D.str ++ [.str w] := by rw [List.map_append]; rfl
      rw [hm, List.length_append, Int.natCast_add, Int.natCast_one]
      exact Weak.ofF (by omega) (by (simp [ConvF, lookV, Conv, ints, cG_refs]; done)) (by (simp (disch := omega) only [TabSub, look, if_pos, if_neg, Obj.refsOK, refsOKs, AV.refsOK, decide_eq_true_eq, Bool.and_true, Bool.and_self, cG_refs] ) <;> ((repeat' apply And.intro) <;> first | exact True.intro | omega | (simp; done) | rfl)) (by simp (disch := omega) only [refsF, refsOKs, AV.refsOK, Bool.and_true, Bool.and_self, decide_eq_true_eq, Bool.true_and, Bool.and_eq_true]; (repeat' apply And.intro) <;> omega)
    · simp only [if_true] at hst
      repeat (first
        | (apply axJ; (focus ((with_reducible constructor) <;> rfl)))
        | (apply awT mixedOK hΓ (by kernel_rfl); (simp (disch := omega) only [go_sem, ↓reduceIte, ↓lk, dk, Int.reduceToNat, List.getElem?_cons_zero, List.getElem?_cons_succ, ↓ty_build82, hy, e1, hix, zeroLoose, partsLoose, arrRep] <;> with_reducible rfl))
        | ((first | apply awN hΓ | apply awG | apply awH mixedOK hΓ rfl (by kernel_rfl) | apply ovE rfl); (simp (disch := omega) only [go_sem, ↓reduceIte, ↓lk, dk, Int.reduceToNat, List.getElem?_cons_zero, List.getElem?_cons_succ, ↓ty_build82, hy, e1, hix, zeroLoose, partsLoose, arrRep] <;> with_reducible rfl); exact trivial)
        | rfl)
      refine ⟨i + 1, by omega, by omega, ?_⟩
      rw [hst]
      dsimp only
      have hgs := cG_snoc gs ⟨n0, w0⟩
      have hln : (gs ++ [(⟨n0, w0⟩ : Gp)]).length = gs.length + 1 := by simp
      have hcv : ∀ H : Heap, H.get 1 = some (.frz (w0.map .str)) → ConvL H (cG gs ++ [.data (.str n0), .row 1 w0.length] ++ [.data (.str w), .nils]) (cG (gs ++ [⟨n0, w0⟩]) ++ [.data (.str w), .nils]) := fun H h => by
        rw [hgs, List.append_assoc, List.append_assoc]
        have hc : ConvL H [.data (.str n0), .row 1 w0.length, .data (.str w), .nils] [.data (.str n0), .data (.list (w0.map .str)), .data (.str w), .nils] := ⟨rfl, .inr (.inr ⟨1, _, rfl, h, by simp⟩), rfl, rfl, trivial⟩
        exact convL_data H hc _
      have hnl := cG_get (gs ++ [⟨n0, w0⟩]) (.data (.str w)) .nils
      have hse := fun k => cG_set (gs ++ [⟨n0, w0⟩]) (.data (.str w)) .nils (.row k 0)
      generalize gs ++ [(⟨n0, w0⟩ : Gp)] = gs2 at *
      rw [hln, Int.natCast_add, Int.natCast_one]
      rw [hln] at hnl hse
      refine (Weak.freeze (o := 1) rfl).trans ((Weak.arrConv (o := 0) rfl (hcv _ rfl)).trans ((Weak.arrnil (o := 0) (i := (gs.length + 1) * 2 + 1) 9 (sz := 1) (by omega) rfl hnl).trans ?_))
      rw [hse]
      exact Weak.trans (s2 := (frame 39 [(3, .row 0 (gs.length + 1 + 1)), (9, .data (.list (l.map .str))), (10, .data (i64 l.length)), (11, .data (i64 ((i : Int) + 1)))])) (H2 := ⟨[(0, .arr 82 2 (gs.length + 1 + 1) (cG gs2 ++ [.data (.str w), .row 16 0])), (16, .row 9 1 [])], 17⟩) (Weak.ofF (by omega) (by (simp [ConvF, lookV, Conv, ints, upd, Heap.set, cG_refs]; done)) (by (simp (disch := omega) only [TabSub, look, if_pos, if_neg, Obj.refsOK, refsOKs, AV.refsOK, decide_eq_true_eq, Bool.and_true, Bool.and_self, upd, Heap.set, cG_refs] ) <;> ((repeat' apply And.intro) <;> first | exact True.intro | omega | (simp; done) | rfl)) (by simp (disch := omega) only [refsF, refsOKs, AV.refsOK, Bool.and_true, Bool.and_self, decide_eq_true_eq, Bool.true_and, Bool.and_eq_true]; (repeat' apply And.intro) <;> omega)) (Weak.packd (os := [.arr 82 2 (gs.length + 1 + 1) (cG gs2 ++ [.data (.str w), .row 1 0]), .row 9 1 ([] : List D)]) (fp := [0, 16]) rfl rfl (by intro i hi; omega) rfl (by simp only [List.map_cons, List.map_nil, renO, cG_ren]; rfl))
  · have hi3 : i = l.length := by omega
    subst hi3
    rw [List.take_length] at z1 z2 ⊢
    unfold gList
    generalize gAll [] l = p at *
    obtain ⟨gs, ⟨n0, w0⟩⟩ := p
    dsimp only at z1 z2 ⊢
    have hgs := cG_snoc gs ⟨n0, w0⟩
    have hln : (gs ++ [(⟨n0, w0⟩ : Gp)]).length = gs.length + 1 := by simp
    have hcv : ∀ H : Heap, H.get 1 = some (.frz (w0.map .str)) → ConvL H (cG gs ++ [.data (.str n0), .row 1 w0.length]) (cG (gs ++ [⟨n0, w0⟩])) := fun H h => by
      rw [hgs]
      have hc : ConvL H [.data (.str n0), .row 1 w0.length] [.data (.str n0), .data (.list (w0.map .str))] := ⟨rfl, .inr (.inr ⟨1, _, rfl, h, by simp⟩), trivial⟩
      exact convL_data H hc _
    have hce := eGps_cells (gs ++ [⟨n0, w0⟩])
    generalize gs ++ [(⟨n0, w0⟩ : Gp)] = gs2 at *
    rw [← hln]
    refine awp_weak ((Weak.freeze (o := 1) rfl).trans ((Weak.arrRow (o := 0) (l := gs2.map eGp) rfl (hcv _ rfl) (by simp) hce.1 hce.2).trans (show Weak _ _ _ ((frame 39 [(3, .row 0 gs2.length), (10, .data (i64 l.length)), (11, .data (i64 l.length))])) ⟨[(0, .row 82 2 (gs2.map eGp))], 2⟩ from Weak.v (by (simp [ConvF, lookV, Conv, ints, upd, Heap.set]; done)) (by (simp (disch := omega) only [TabSub, look, if_pos, if_neg, Obj.refsOK, refsOKs, AV.refsOK, decide_eq_true_eq, Bool.and_true, Bool.and_self, upd, Heap.set] ) <;> ((repeat' apply And.intro) <;> first | exact True.intro | omega | (simp; done) | rfl))))) ?_
    repeat (first
      | (apply axJ; (focus ((with_reducible constructor) <;> rfl)))
      | (apply awT mixedOK hΓ (by kernel_rfl); (simp (disch := omega) only [go_sem, ↓reduceIte, ↓lk, dk] <;> with_reducible rfl))
      | ((first | apply awR hΓ | apply awG | apply awH mixedOK hΓ rfl (by kernel_rfl) | apply ovE rfl); (simp (disch := omega) only [go_sem, ↓reduceIte, ↓lk, dk] <;> with_reducible rfl); exact trivial)
      | rfl)
    try rfl
end Go.Ab
namespace Go.Ab
open Go Go.RowKit Go.Proofs
set_option maxRecDepth 10000
set_option maxHeartbeats 16000000
theorem eGp_ie' (a b : Gp) : (eGp a = eGp b) = (a = b) := propext ⟨eGp_inj a b, fun h => by rw [h]⟩
structure Pt where
  sep : Bs
  least : Int
  many : Bool
def ePt (p : Pt) : D := .agg [.str p.sep, i64 p.least, .bool p.many]
@[go_sem] theorem ePt_eq (p : Pt) : ePt p = .agg [.str p.sep, .int .i64 p.least, .bool p.many] := rfl
theorem ePt_inj (a b : Pt) (h : ePt a = ePt b) : a = b := by
  cases a; cases b
  simp only [ePt, i64, D.agg.injEq, List.cons.injEq, D.str.injEq, D.int.injEq, D.bool.injEq, and_true, true_and] at h
  obtain ⟨rfl, rfl, rfl⟩ := h
  rfl
theorem ePt_ie (a b : Pt) : (ePt a = ePt b) = (a = b) := propext ⟨ePt_inj a b, fun h => by rw [h]⟩
theorem ePts_ie (a b : List Pt) : (a.map ePt = b.map ePt) = (a = b) := map_ie ePt_inj a b
@[go_sem] theorem elemsOK_pt (l : List Pt) : elemsOK 3 (l.map ePt) = true := elemsOK_map (f := ePt) (fun _ => ⟨by rfl, by rfl⟩) l
noncomputable def g_rowC : List D → Option D := encSpec (fun x : (List Pt) => [.list (x.map ePt)]) (fun x : (List Pt) => x.length ≤ 1099511627776) (fun x : (List Pt) => .list (x.map ePt))
theorem g_rowC_eq {l : List Pt} (hd : l.length ≤ 1099511627776) : g_rowC [.list (l.map ePt)] = some (.list (l.map ePt)) := encSpec_eq (x := l) hd fun y hy => by
    simp only [List.cons.injEq, and_true, true_and, D.str.injEq, D.int.injEq, D.list.injEq, D.bool.injEq, D.agg.injEq, D.clo.injEq, Int.natCast_inj, inj_ie, eGp_ie', ePt_ie, ePts_ie] at hy
    rw [hy]
theorem f_rowC_ok : PureOK Tryd.prog 62 false g_rowC := by
  have hΓ := Γ0_ok
  refine pure_enc (n := 4) (rs := [.tmp 2]) Tryd.func62 (by kernel_rfl) rfl (by kernel_rfl) (by kernel_rfl) ?_
  rintro l hd
  (try dsimp only at hd ⊢)
  refine ⟨fun h => (by cases h), fun k hz0 => ?_⟩
  rw [start_frame (by simp)]; simp only [enumV, go_sem, emptyH]
  repeat (first
    | (apply axJ; (focus ((with_reducible constructor) <;> rfl)))
    | (apply awT mixedOK hΓ (by kernel_rfl); (simp (disch := omega) only [go_sem, ↓reduceIte, dk, ↓lk] <;> with_reducible rfl))
    | ((first | apply awR hΓ | apply awG | apply awH mixedOK hΓ rfl (by kernel_rfl) | apply ovE rfl); (simp (disch := omega) only [go_sem, ↓reduceIte, dk, ↓lk] <;> with_reducible rfl); exact trivial)
    | rfl)
  try rfl
noncomputable def g_oneC : List D → Option D := encSpec (fun x : Bs => [.str x]) (fun x : Bs => x.length ≤ 1099511627776) (fun x : Bs => ePt ⟨x, 1, false⟩)
theorem g_oneC_eq {s : Bs} (hd : s.length ≤ 1099511627776) : g_oneC [.str s] = some (ePt ⟨s, 1, false⟩) := encSpec_eq (x := s) hd fun y hy => by
    simp only [List.cons.injEq, and_true, true_and, D.str.injEq, D.int.injEq, D.list.injEq, D.bool.injEq, D.agg.injEq, D.clo.injEq, Int.natCast_inj, inj_ie, eGp_ie', ePt_ie, ePts_ie] at hy
    rw [hy]
theorem f_oneC_ok : PureOK Tryd.prog 63 false g_oneC := by
  have hΓ := Γ0_ok
  refine pure_enc (n := 5) (rs := [.cell 2 105]) Tryd.func63 (by kernel_rfl) rfl (by kernel_rfl) (by kernel_rfl) ?_
  rintro s hd
  (try dsimp only at hd ⊢)
  refine ⟨fun h => (by cases h), fun k hz0 => ?_⟩
  rw [start_frame (by simp)]; simp only [enumV, go_sem, emptyH]
  repeat (first
    | (apply axJ; (focus ((with_reducible constructor) <;> rfl)))
    | (apply awT mixedOK hΓ (by kernel_rfl); (simp (disch := omega) only [go_sem, ↓reduceIte, dk, ↓lk, ↓ty_build105] <;> with_reducible rfl))
    | ((first | apply awR hΓ | apply awG | apply awH mixedOK hΓ rfl (by kernel_rfl) | apply ovE rfl); (simp (disch := omega) only [go_sem, ↓reduceIte, dk, ↓lk, ↓ty_build105] <;> with_reducible rfl); exact trivial)
    | rfl)
  try rfl
noncomputable def g_someC : List D → Option D := encSpec (fun x : Bs => [.str x]) (fun x : Bs => x.length ≤ 1099511627776) (fun x : Bs => ePt ⟨x, 1, true⟩)
theorem g_someC_eq {s : Bs} (hd : s.length ≤ 1099511627776) : g_someC [.str s] = some (ePt ⟨s, 1, true⟩) := encSpec_eq (x := s) hd fun y hy => by
    simp only [List.cons.injEq, and_true, true_and, D.str.injEq, D.int.injEq, D.list.injEq, D.bool.injEq, D.agg.injEq, D.clo.injEq, Int.natCast_inj, inj_ie, eGp_ie', ePt_ie, ePts_ie] at hy
    rw [hy]
theorem f_someC_ok : PureOK Tryd.prog 64 false g_someC := by
  have hΓ := Γ0_ok
  refine pure_enc (n := 5) (rs := [.cell 2 105]) Tryd.func64 (by kernel_rfl) rfl (by kernel_rfl) (by kernel_rfl) ?_
  rintro s hd
  (try dsimp only at hd ⊢)
  refine ⟨fun h => (by cases h), fun k hz0 => ?_⟩
  rw [start_frame (by simp)]; simp only [enumV, go_sem, emptyH]
  repeat (first
    | (apply axJ; (focus ((with_reducible constructor) <;> rfl)))
    | (apply awT mixedOK hΓ (by kernel_rfl); (simp (disch := omega) only [go_sem, ↓reduceIte, dk, ↓lk, ↓ty_build105] <;> with_reducible rfl))
    | ((first | apply awR hΓ | apply awG | apply awH mixedOK hΓ rfl (by kernel_rfl) | apply ovE rfl); (simp (disch := omega) only [go_sem, ↓reduceIte, dk, ↓lk, ↓ty_build105] <;> with_reducible rfl); exact trivial)
    | rfl)
  try rfl
def rw_compile : List (List Pt) := [[⟨[], 1, false⟩, ⟨[116, 111], 1, false⟩], [⟨[], 1, false⟩, ⟨[116, 111], 1, false⟩, ⟨[119, 105, 116, 104], 1, true⟩]]
def rw_archive : List (List Pt) := [[⟨[], 1, true⟩, ⟨[116, 111], 1, false⟩]]
def rw_share : List (List Pt) := [[⟨[], 1, true⟩, ⟨[116, 111], 1, false⟩]]
def rw_link : List (List Pt) := [[⟨[], 2, true⟩, ⟨[116, 111], 1, false⟩], [⟨[], 2, true⟩, ⟨[117, 115, 105, 110, 103], 1, true⟩, ⟨[116, 111], 1, false⟩]]
def rw_run : List (List Pt) := [[⟨[], 1, false⟩, ⟨[111, 110], 1, false⟩, ⟨[116, 111], 1, false⟩], [⟨[], 1, false⟩, ⟨[117, 115, 105, 110, 103], 1, true⟩, ⟨[111, 110], 1, false⟩, ⟨[116, 111], 1, false⟩]]
def rw_patch : List (List Pt) := [[⟨[], 1, false⟩, ⟨[119, 105, 116, 104], 1, false⟩, ⟨[116, 111], 1, false⟩]]
def rw_copy : List (List Pt) := [[⟨[], 1, false⟩, ⟨[116, 111], 1, false⟩]]
def rw_install : List (List Pt) := [[⟨[], 1, false⟩, ⟨[97, 115], 1, false⟩]]
def rowsB (s : Bs) : List (List Pt) × Int :=
  if s == [99, 111, 109, 112, 105, 108, 101] then (rw_compile, 1)
  else if s == [97, 114, 99, 104, 105, 118, 101] then (rw_archive, 2)
  else if s == [115, 104, 97, 114, 101] then (rw_share, 3)
  else if s == [108, 105, 110, 107] then (rw_link, 4)
  else if s == [114, 117, 110] then (rw_run, 5)
  else if s == [112, 97, 116, 99, 104] then (rw_patch, 6)
  else if s == [99, 111, 112, 121] then (rw_copy, 7)
  else if s == [105, 110, 115, 116, 97, 108, 108] then (rw_install, 8)
  else ([], 0)
def eRw (p : List (List Pt) × Int) : D := .tup [.list (p.1.map fun l => .list (l.map ePt)), i64 p.2]
noncomputable def g_rowsP : List D → Option D := encSpec (fun x : Bs => [.str x]) (fun x : Bs => x.length ≤ 1099511627776) (fun x : Bs => eRw (rowsB x))
theorem g_rowsP_eq {s : Bs} (hd : s.length ≤ 1099511627776) : g_rowsP [.str s] = some (eRw (rowsB s)) := encSpec_eq (x := s) hd fun y hy => by
    simp only [List.cons.injEq, and_true, true_and, D.str.injEq, D.int.injEq, D.list.injEq, D.bool.injEq, D.agg.injEq, D.clo.injEq, Int.natCast_inj, inj_ie, eGp_ie', ePt_ie, ePts_ie] at hy
    rw [hy]
theorem f_rowsP_ok : PureOK Tryd.prog 43 false g_rowsP := by
  have hΓ := Γp f_rowC_ok (Γp f_oneC_ok (Γp f_someC_ok (Γn)))
  refine pure_enc (n := 119) (rs := [.tmp 2, .tmp 3]) Tryd.func43 (by kernel_rfl) rfl (by kernel_rfl) (by kernel_rfl) ?_
  rintro s hd
  (try dsimp only at hd ⊢)
  refine ⟨fun h => (by cases h), fun k hz0 => ?_⟩
  have a0 := g_oneC_eq (s := []) (by decide)
  have b0 := g_someC_eq (s := []) (by decide)
  have a1 := g_oneC_eq (s := [116, 111]) (by decide)
  have b1 := g_someC_eq (s := [116, 111]) (by decide)
  have a2 := g_oneC_eq (s := [119, 105, 116, 104]) (by decide)
  have b2 := g_someC_eq (s := [119, 105, 116, 104]) (by decide)
  have a3 := g_oneC_eq (s := [117, 115, 105, 110, 103]) (by decide)
  have b3 := g_someC_eq (s := [117, 115, 105, 110, 103]) (by decide)
  have a4 := g_oneC_eq (s := [111, 110]) (by decide)
  have b4 := g_someC_eq (s := [111, 110]) (by decide)
  have a5 := g_oneC_eq (s := [97, 115]) (by decide)
  have b5 := g_someC_eq (s := [97, 115]) (by decide)
  have r0 := g_rowC_eq (l := [⟨[], 1, false⟩, ⟨[116, 111], 1, false⟩]) (by decide)
  have r1 := g_rowC_eq (l := [⟨[], 1, false⟩, ⟨[116, 111], 1, false⟩, ⟨[119, 105, 116, 104], 1, true⟩]) (by decide)
  have r2 := g_rowC_eq (l := [⟨[], 1, true⟩, ⟨[116, 111], 1, false⟩]) (by decide)
  have r3 := g_rowC_eq (l := [⟨[], 2, true⟩, ⟨[116, 111], 1, false⟩]) (by decide)
  have r4 := g_rowC_eq (l := [⟨[], 2, true⟩, ⟨[117, 115, 105, 110, 103], 1, true⟩, ⟨[116, 111], 1, false⟩]) (by decide)
  have r5 := g_rowC_eq (l := [⟨[], 1, false⟩, ⟨[111, 110], 1, false⟩, ⟨[116, 111], 1, false⟩]) (by decide)
  have r6 := g_rowC_eq (l := [⟨[], 1, false⟩, ⟨[117, 115, 105, 110, 103], 1, true⟩, ⟨[111, 110], 1, false⟩, ⟨[116, 111], 1, false⟩]) (by decide)
  have r7 := g_rowC_eq (l := [⟨[], 1, false⟩, ⟨[119, 105, 116, 104], 1, false⟩, ⟨[116, 111], 1, false⟩]) (by decide)
  have r8 := g_rowC_eq (l := [⟨[], 1, false⟩, ⟨[97, 115], 1, false⟩]) (by decide)
  simp only [ePt_eq, List.map_cons, List.map_nil] at a0 b0 a1 b1 a2 b2 a3 b3 a4 b4 a5 b5 r0 r1 r2 r3 r4 r5 r6 r7 r8
  unfold rowsB
  rw [start_frame (by simp)]; simp only [enumV, go_sem, emptyH]
  generalize h0 : (s == [99, 111, 109, 112, 105, 108, 101]) = k0
  generalize h1 : (s == [97, 114, 99, 104, 105, 118, 101]) = k1
  generalize h2 : (s == [115, 104, 97, 114, 101]) = k2
  generalize h3 : (s == [108, 105, 110, 107]) = k3
  generalize h4 : (s == [114, 117, 110]) = k4
  generalize h5 : (s == [112, 97, 116, 99, 104]) = k5
  generalize h6 : (s == [99, 111, 112, 121]) = k6
  generalize h7 : (s == [105, 110, 115, 116, 97, 108, 108]) = k7
  cases k0
  rotate_left
  · repeat (first
    | (apply axJ; (focus ((with_reducible constructor) <;> rfl)))
    | (apply awT mixedOK hΓ (by kernel_rfl); (simp (disch := omega) only [go_sem, ↓reduceIte, dk, ↓lk, ↓ty_build105, a0, b0, a1, b1, a2, b2, a3, b3, a4, b4, a5, b5, r0, r1, r2, r3, r4, r5, r6, r7, r8, h0, h1, h2, h3, h4, h5, h6, h7] <;> with_reducible rfl))
    | ((first | apply awR hΓ | apply awG | apply awH mixedOK hΓ rfl (by kernel_rfl) | apply ovE rfl); (simp (disch := omega) only [go_sem, ↓reduceIte, dk, ↓lk, ↓ty_build105, a0, b0, a1, b1, a2, b2, a3, b3, a4, b4, a5, b5, r0, r1, r2, r3, r4, r5, r6, r7, r8, h0, h1, h2, h3, h4, h5, h6, h7] <;> with_reducible rfl); exact trivial)
    | rfl)
    try rfl
  cases k1
  rotate_left
  · repeat (first
    | (apply axJ; (focus ((with_reducible constructor) <;> rfl)))
    | (apply awT mixedOK hΓ (by kernel_rfl); (simp (disch := omega) only [go_sem, ↓reduceIte, dk, ↓lk, ↓ty_build105, a0, b0, a1, b1, a2, b2, a3, b3, a4, b4, a5, b5, r0, r1, r2, r3, r4, r5, r6, r7, r8, h0, h1, h2, h3, h4, h5, h6, h7] <;> with_reducible rfl))
    | ((first | apply awR hΓ | apply awG | apply awH mixedOK hΓ rfl (by kernel_rfl) | apply ovE rfl); (simp (disch := omega) only [go_sem, ↓reduceIte, dk, ↓lk, ↓ty_build105, a0, b0, a1, b1, a2, b2, a3, b3, a4, b4, a5, b5, r0, r1, r2, r3, r4, r5, r6, r7, r8, h0, h1, h2, h3, h4, h5, h6, h7] <;> with_reducible rfl); exact trivial)
    | rfl)
    try rfl
  cases k2
  rotate_left
  · repeat (first
    | (apply axJ; (focus ((with_reducible constructor) <;> rfl)))
    | (apply awT mixedOK hΓ (by kernel_rfl); (simp (disch := omega) only [go_sem, ↓reduceIte, dk, ↓lk, ↓ty_build105, a0, b0, a1, b1, a2, b2, a3, b3, a4, b4, a5, b5, r0, r1, r2, r3, r4, r5, r6, r7, r8, h0, h1, h2, h3, h4, h5, h6, h7] <;> with_reducible rfl))
    | ((first | apply awR hΓ | apply awG | apply awH mixedOK hΓ rfl (by kernel_rfl) | apply ovE rfl); (simp (disch := omega) only [go_sem, ↓reduceIte, dk, ↓lk, ↓ty_build105, a0, b0, a1, b1, a2, b2, a3, b3, a4, b4, a5, b5, r0, r1, r2, r3, r4, r5, r6, r7, r8, h0, h1, h2, h3, h4, h5, h6, h7] <;> with_reducible rfl); exact trivial)
    | rfl)
    try rfl
  cases k3
  rotate_left
  · repeat (first
    | (apply axJ; (focus ((with_reducible constructor) <;> rfl)))
    | (apply awT mixedOK hΓ (by kernel_rfl); (simp (disch := omega) only [go_sem, ↓reduceIte, dk, ↓lk, ↓ty_build105, a0, b0, a1, b1, a2, b2, a3, b3, a4, b4, a5, b5, r0, r1, r2, r3, r4, r5, r6, r7, r8, h0, h1, h2, h3, h4, h5, h6, h7] <;> with_reducible rfl))
    | ((first | apply awR hΓ | apply awG | apply awH mixedOK hΓ rfl (by kernel_rfl) | apply ovE rfl); (simp (disch := omega) only [go_sem, ↓reduceIte, dk, ↓lk, ↓ty_build105, a0, b0, a1, b1, a2, b2, a3, b3, a4, b4, a5, b5, r0, r1, r2, r3, r4, r5, r6, r7, r8, h0, h1, h2, h3, h4, h5, h6, h7] <;> with_reducible rfl); exact trivial)
    | rfl)
    try rfl
  cases k4
  rotate_left
  · repeat (first
    | (apply axJ; (focus ((with_reducible constructor) <;> rfl)))
    | (apply awT mixedOK hΓ (by kernel_rfl); (simp (disch := omega) only [go_sem, ↓reduceIte, dk, ↓lk, ↓ty_build105, a0, b0, a1, b1, a2, b2, a3, b3, a4, b4, a5, b5, r0, r1, r2, r3, r4, r5, r6, r7, r8, h0, h1, h2, h3, h4, h5, h6, h7] <;> with_reducible rfl))
    | ((first | apply awR hΓ | apply awG | apply awH mixedOK hΓ rfl (by kernel_rfl) | apply ovE rfl); (simp (disch := omega) only [go_sem, ↓reduceIte, dk, ↓lk, ↓ty_build105, a0, b0, a1, b1, a2, b2, a3, b3, a4, b4, a5, b5, r0, r1, r2, r3, r4, r5, r6, r7, r8, h0, h1, h2, h3, h4, h5, h6, h7] <;> with_reducible rfl); exact trivial)
    | rfl)
    try rfl
  cases k5
  rotate_left
  · repeat (first
    | (apply axJ; (focus ((with_reducible constructor) <;> rfl)))
    | (apply awT mixedOK hΓ (by kernel_rfl); (simp (disch := omega) only [go_sem, ↓reduceIte, dk, ↓lk, ↓ty_build105, a0, b0, a1, b1, a2, b2, a3, b3, a4, b4, a5, b5, r0, r1, r2, r3, r4, r5, r6, r7, r8, h0, h1, h2, h3, h4, h5, h6, h7] <;> with_reducible rfl))
    | ((first | apply awR hΓ | apply awG | apply awH mixedOK hΓ rfl (by kernel_rfl) | apply ovE rfl); (simp (disch := omega) only [go_sem, ↓reduceIte, dk, ↓lk, ↓ty_build105, a0, b0, a1, b1, a2, b2, a3, b3, a4, b4, a5, b5, r0, r1, r2, r3, r4, r5, r6, r7, r8, h0, h1, h2, h3, h4, h5, h6, h7] <;> with_reducible rfl); exact trivial)
    | rfl)
    try rfl
  cases k6
  rotate_left
  · repeat (first
    | (apply axJ; (focus ((with_reducible constructor) <;> rfl)))
    | (apply awT mixedOK hΓ (by kernel_rfl); (simp (disch := omega) only [go_sem, ↓reduceIte, dk, ↓lk, ↓ty_build105, a0, b0, a1, b1, a2, b2, a3, b3, a4, b4, a5, b5, r0, r1, r2, r3, r4, r5, r6, r7, r8, h0, h1, h2, h3, h4, h5, h6, h7] <;> with_reducible rfl))
    | ((first | apply awR hΓ | apply awG | apply awH mixedOK hΓ rfl (by kernel_rfl) | apply ovE rfl); (simp (disch := omega) only [go_sem, ↓reduceIte, dk, ↓lk, ↓ty_build105, a0, b0, a1, b1, a2, b2, a3, b3, a4, b4, a5, b5, r0, r1, r2, r3, r4, r5, r6, r7, r8, h0, h1, h2, h3, h4, h5, h6, h7] <;> with_reducible rfl); exact trivial)
    | rfl)
    try rfl
  cases k7
  rotate_left
  · repeat (first
    | (apply axJ; (focus ((with_reducible constructor) <;> rfl)))
    | (apply awT mixedOK hΓ (by kernel_rfl); (simp (disch := omega) only [go_sem, ↓reduceIte, dk, ↓lk, ↓ty_build105, a0, b0, a1, b1, a2, b2, a3, b3, a4, b4, a5, b5, r0, r1, r2, r3, r4, r5, r6, r7, r8, h0, h1, h2, h3, h4, h5, h6, h7] <;> with_reducible rfl))
    | ((first | apply awR hΓ | apply awG | apply awH mixedOK hΓ rfl (by kernel_rfl) | apply ovE rfl); (simp (disch := omega) only [go_sem, ↓reduceIte, dk, ↓lk, ↓ty_build105, a0, b0, a1, b1, a2, b2, a3, b3, a4, b4, a5, b5, r0, r1, r2, r3, r4, r5, r6, r7, r8, h0, h1, h2, h3, h4, h5, h6, h7] <;> with_reducible rfl); exact trivial)
    | rfl)
    try rfl
  · repeat (first
    | (apply axJ; (focus ((with_reducible constructor) <;> rfl)))
    | (apply awT mixedOK hΓ (by kernel_rfl); (simp (disch := omega) only [go_sem, ↓reduceIte, dk, ↓lk, ↓ty_build105, a0, b0, a1, b1, a2, b2, a3, b3, a4, b4, a5, b5, r0, r1, r2, r3, r4, r5, r6, r7, r8, h0, h1, h2, h3, h4, h5, h6, h7] <;> with_reducible rfl))
    | ((first | apply awR hΓ | apply awG | apply awH mixedOK hΓ rfl (by kernel_rfl) | apply ovE rfl); (simp (disch := omega) only [go_sem, ↓reduceIte, dk, ↓lk, ↓ty_build105, a0, b0, a1, b1, a2, b2, a3, b3, a4, b4, a5, b5, r0, r1, r2, r3, r4, r5, r6, r7, r8, h0, h1, h2, h3, h4, h5, h6, h7] <;> with_reducible rfl); exact trivial)
    | rfl)
    try rfl
end Go.Ab
