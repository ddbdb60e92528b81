/-
  One text of the proof (own work): contracts of functions of the program, by the abstract machine.
-/
import Derived.Test.YtlfmbcjjojedgaaGreatDoorX19
import Derived.Test.YtlfmbcjjojedgaaGreatDoorX42
import Derived.Test.YtlfmbcjjojedgaaGreatDoorX41
import Derived.Test.YtlfmbcjjojedgaaGreatDoorX40
import Derived.Test.YtlfmbcjjojedgaaGreatDoorX38
set_option linter.unusedVariables false
set_option linter.unusedSimpArgs false
namespace Go.Ab
open Go Go.RowKit Go.Proofs
set_option maxRecDepth 10000
set_option maxHeartbeats 16000000
theorem holdT_take {l : List Hd} {i : Nat} (hi : i < l.length) : holdT (l.take (i + 1)) = holdT (l.take i) ++ (if isK 1 l[i] then [l[i].text] else []) := by
  unfold holdT
  rw [List.take_add_one, List.getElem?_eq_getElem hi, List.filter_append, List.map_append]
  congr 1
  show ([l[i]].filter (isK 1)).map Hd.text = _
  rw [List.filter_cons]
  split <;> rfl
theorem holdT_len (l : List Hd) : (holdT l).length ≤ l.length := by
  unfold holdT
  rw [List.length_map]
  exact List.length_filter_le _ _
theorem call_sortS {ss : List Bs} (h : ss.length ≤ 1000000000) (k n : Nat) : callLoc k ⟨[(5, .row 9 1 (ss.map .str))], n⟩ g_sortS [.row 5 ss.length] = some (.junk, ⟨[(5, .row 9 1 ((sortB ss).map .str))], k⟩) :=
  (callLoc_of (fp := [5]) rfl rfl rfl (g_sortS_eq h) (by simp)).trans (by simp [ren, rens, backTo, putAll, upd, renO, Heap.get, look])
theorem call_compS {ss : List Bs} (h : ss.length ≤ 1000000000) (k n : Nat) (hk : ¬ k = 5) : callLoc k ⟨[(5, .row 9 1 (ss.map .str))], n⟩ g_compS [.row 5 ss.length] = some (.row k (compB ss).length, ⟨[(5, .dead), (k, .row 9 1 ((compB ss).map .str))], k + 1⟩) :=
  (callLoc_of (fp := [5]) rfl rfl rfl (g_compS_eq h) (by simp)).trans (by simp [ren, rens, backTo, putAll, upd, renO, Heap.get, look, hk])
theorem sortB_len (l : List Bs) : (sortB l).length = l.length := by simp [sortB]
noncomputable def g_holdP36 : List D → Option D := encSpec (fun x : (List Hd) => [.list (x.map eHd)]) (fun x : (List Hd) => x.length ≤ 1000000) (fun x : (List Hd) => .list ((holdP x).map .str))
theorem g_holdP36_eq {l : List Hd} (hd : l.length ≤ 1000000) : g_holdP36 [.list (l.map eHd)] = some (.list ((holdP l).map .str)) := encSpec_eq (x := l) hd fun y hy => by
    simp only [List.cons.injEq, and_true, true_and, D.str.injEq, D.int.injEq, D.list.injEq, D.bool.injEq, D.agg.injEq, D.clo.injEq, Int.natCast_inj, inj_ie, eHd_ie] at hy
    rw [hy]
theorem f_holdP36_ok : PureOK Tryz.prog 22 false g_holdP36 := by
  have hΓ := Γq f_sortS_ok (Γq f_compS_ok (Γn))
  refine pure_enc (n := 31) (rs := [.tmp 2]) Tryz.func22 (by kernel_rfl) rfl (by kernel_rfl) (by kernel_rfl) ?_
  rintro l hd
  (try dsimp only at hd ⊢)
  refine ⟨fun h => (by cases h), fun k hz0 => ?_⟩
  unfold holdP
  rw [start_frame (by simp)]; simp only [enumV, go_sem, emptyH]
  repeat (first
    | (apply axJ; (focus ((with_reducible constructor) <;> rfl)))
    | (apply awT mixedOK hΓ (by kernel_rfl); (simp (disch := omega) only [go_sem, ↓reduceIte, dk, ↓lk] <;> with_reducible rfl))
    | ((first | apply awR hΓ | apply awG | apply awH mixedOK hΓ rfl (by kernel_rfl) | apply ovE rfl); (simp (disch := omega) only [go_sem, ↓reduceIte, dk, ↓lk] <;> with_reducible rfl); exact trivial)
    | rfl)
  refine awp_weak (Weak.nilrowF (i := 3) 9 (sz := 1) (by omega) (by omega) rfl) ?_
  refine awp_loop_at (X := Nat) (fun i => (frame 31 [(3, .row 5 (holdT (l.take i)).length), (6, .data (.list (l.map eHd))), (7, .data (i64 l.length)), (8, .data (i64 i))])) (fun i => [(5, .row 9 1 ((holdT (l.take i)).map .str))]) 6
    (fun i => i ≤ l.length) (fun i => l.length - i) 0 (Nat.zero_le _) (Weak.v (by (simp [ConvF, lookV, Conv, ints, upd, List.take_zero, holdT, List.filter_nil]; done)) (by (simp (disch := omega) only [TabSub, look, if_pos, if_neg, Obj.refsOK, refsOKs, AV.refsOK, decide_eq_true_eq, Bool.and_true, Bool.and_self, upd, List.take_zero, holdT, List.filter_nil] ) <;> ((repeat' apply And.intro) <;> first | exact True.intro | omega | (simp; done) | rfl))) ?_
  intro i hi
  (try dsimp only at hi ⊢)
  by_cases hi2 : i < l.length
  · have hst := holdT_take hi2
    have hle := holdT_len (l.take i)
    rw [List.length_take] at hle
    generalize hy : l[i] = y at *
    have hk : (y.kind == 1) = isK 1 y := rfl
    generalize isK 1 y = c at *
    generalize holdT (l.take i) = acc at *
    cases c
    · rw [if_neg (by decide), List.append_nil] at hst
      repeat (first
        | (apply axJ; (focus ((with_reducible constructor) <;> rfl)))
        | (apply awT mixedOK hΓ (by kernel_rfl); (simp (disch := omega) only [go_sem, ↓reduceIte, dk, ↓lk, Int.reduceBEq, Int.reduceBNe, Bool.true_bne, Bool.false_bne, Bool.not_true, Bool.not_false, hy, hk, eHd_eq] <;> with_reducible rfl))
        | ((first | apply awR hΓ | apply awG | apply awH mixedOK hΓ rfl (by kernel_rfl) | apply ovE rfl); (simp (disch := omega) only [go_sem, ↓reduceIte, dk, ↓lk, Int.reduceBEq, Int.reduceBNe, Bool.true_bne, Bool.false_bne, Bool.not_true, Bool.not_false, hy, hk, eHd_eq] <;> with_reducible rfl); exact trivial)
        | rfl)
      exact ⟨i + 1, by omega, by omega, by rw [hst]; exact Weak.w⟩
    · rw [if_pos rfl] at hst
      have hm : (acc ++ [y.text]).map D.str = acc.map D.str ++ [.str y.text] := by rw [List.map_append]; rfl
      repeat (first
        | (apply axJ; (focus ((with_reducible constructor) <;> rfl)))
        | (apply awT mixedOK hΓ (by kernel_rfl); (simp (disch := omega) only [go_sem, ↓reduceIte, dk, ↓lk, Int.reduceBEq, Int.reduceBNe, Bool.true_bne, Bool.false_bne, Bool.not_true, Bool.not_false, hy, hk, eHd_eq] <;> with_reducible rfl))
        | ((first | apply awR hΓ | apply awG | apply awH mixedOK hΓ rfl (by kernel_rfl) | apply ovE rfl); (simp (disch := omega) only [go_sem, ↓reduceIte, dk, ↓lk, Int.reduceBEq, Int.reduceBNe, Bool.true_bne, Bool.false_bne, Bool.not_true, Bool.not_false, hy, hk, eHd_eq] <;> with_reducible rfl); exact trivial)
        | rfl)
      exact ⟨i + 1, by omega, by omega, by rw [hst]; exact Weak.v (by (simp [ConvF, lookV, Conv, ints, hm]; done)) (by (simp (disch := omega) only [TabSub, look, if_pos, if_neg, Obj.refsOK, refsOKs, AV.refsOK, decide_eq_true_eq, Bool.and_true, Bool.and_self, hm] ) <;> ((repeat' apply And.intro) <;> first | exact True.intro | omega | (simp; done) | rfl))⟩
  · have hi3 : i = l.length := by omega
    subst hi3
    rw [List.take_length]
    have hle := holdT_len l
    generalize holdT l = t at *
    have e1 := fun k n => call_sortS (ss := t) (by omega) k n
    have e2 := fun k n hk => call_compS (ss := sortB t) (by rw [sortB_len]; omega) k n hk
    have hsl := sortB_len t
    rw [hsl] at e2
    have hcl := comp_len (sortB t)
    repeat (first
      | (apply axJ; (focus ((with_reducible constructor) <;> rfl)))
      | (apply awT mixedOK hΓ (by kernel_rfl); (simp (disch := omega) only [go_sem, ↓reduceIte, dk, ↓lk, Int.reduceBEq, Int.reduceBNe, Bool.true_bne, Bool.false_bne, Bool.not_true, Bool.not_false, ↓e1, ↓e2] <;> with_reducible rfl))
      | ((first | apply awR hΓ | apply awG | apply awH mixedOK hΓ rfl (by kernel_rfl) | apply ovE rfl); (simp (disch := omega) only [go_sem, ↓reduceIte, dk, ↓lk, Int.reduceBEq, Int.reduceBNe, Bool.true_bne, Bool.false_bne, Bool.not_true, Bool.not_false, ↓e1, ↓e2] <;> with_reducible rfl); exact trivial)
      | rfl)
    rw [Nat.sub_zero, List.take_of_length_le (by simp)]
end Go.Ab
namespace Go.Ab
open Go Go.RowKit Go.Proofs
set_option maxRecDepth 100000
set_option maxHeartbeats 16000000
abbrev wkT : Bs := [110, 111, 116, 101, 32, 50, 10, 32, 32, 47, 47, 32, 76, 105, 99, 101, 110, 115, 101, 58, 32, 97, 108, 100, 101, 114, 32, 111, 114, 32, 98, 105, 114, 99, 104, 32, 42, 47, 10, 67, 111, 112, 121, 114, 105, 103, 104, 116, 58, 32, 32, 32, 65, 100, 97, 10, 76, 105, 99, 101, 110, 115, 101, 58]
abbrev wkL : List Hd := [⟨0, 1, [97, 108, 100, 101, 114, 32, 111, 114, 32, 98, 105, 114, 99, 104]⟩, ⟨1, 2, [65, 100, 97]⟩]
theorem wk_scan : scanB wkT = wkL := by kernel_rfl
theorem wk_decl : (declGo [] wkL).2 = (0, 0) := by kernel_rfl
theorem wk_fmt : fmtX (declGo [] wkL).1 = ([97, 108, 100, 101, 114, 32, 111, 114, 32, 98, 105, 114, 99, 104], 0) := by kernel_rfl
theorem wk_bd : (declGo [] wkL).1.Bd 1099511627776 := decl_inv _ _ (fun _ h => by cases h) (by decide)
theorem wk_w : writeB 0 [97, 108, 100, 101, 114] = ([35, 32, 76, 105, 99, 101, 110, 115, 101, 58, 32, 97, 108, 100, 101, 114], 0) := by kernel_rfl
theorem wk_p : putB [97, 10, 76, 105, 99, 101, 110, 115, 101, 58, 32, 120, 10, 98] 0 [121] = ([35, 32, 76, 105, 99, 101, 110, 115, 101, 58, 32, 121, 10, 97, 10, 98], 0) := by kernel_rfl
theorem wk_h : holdT wkL = [[65, 100, 97]] := by kernel_rfl
theorem wk_hp : holdP wkL = [[65, 100, 97]] := by
  obtain ⟨h1, h2⟩ := holdP_ok wkL
  rw [wk_h] at h2
  exact strict_eq _ _ h1 (List.pairwise_singleton _ _) h2
theorem wk_s : stripB [97, 10, 59, 32, 67, 111, 112, 121, 114, 105, 103, 104, 116, 58, 32, 120, 10] = [97, 10] := by kernel_rfl
noncomputable def g_wk36 : List D → Option D := encSpec (fun _ : Unit => []) (fun _ => True) (fun _ => .bool true)
theorem g_wk36_eq : g_wk36 [] = some (.bool true) := encSpec_eq (x := ()) trivial fun _ _ => rfl
theorem f_wk36_ok : PureOK Tryz.prog 11 true g_wk36 := by
  have hΓ := (Γo f_scan_ok (Γp f_declP_ok (Γp f_writeP_ok (Γp f_putP_ok (Γp f_fmtP_ok (Γp f_equalH_ok (Γp f_holdP36_ok (Γp f_equalS_ok (Γp f_stripP_ok (Γn))))))))))
  refine pure_enc (n := 72) (rs := [.tmp 0]) Tryz.func11 (by kernel_rfl) rfl (by kernel_rfl) (by kernel_rfl) ?_
  rintro _ _
  refine ⟨fun _ => .bool _, fun k hz0 => ?_⟩
  have p1 := g_scan_eq (s := wkT) (by decide)
  rw [wk_scan] at p1
  have p2 := g_declP_eq (l := wkL) ⟨by decide, by decide⟩
  have p3 := g_fmtP_eq wk_bd
  rw [wk_fmt] at p3
  rw [show declGo [] wkL = ((declGo [] wkL).1, 0, 0) from Prod.ext rfl wk_decl] at p2
  generalize (declGo [] wkL).1 = X at *
  have p4 := g_writeP_eq (m := 0) (s := [97, 108, 100, 101, 114]) (by decide)
  rw [wk_w] at p4
  have p5 := g_putP_eq (s := [97, 10, 76, 105, 99, 101, 110, 115, 101, 58, 32, 120, 10, 98]) (m := 0) (u := [121]) ⟨by decide, by decide⟩
  rw [wk_p] at p5
  have p6 := g_equalH_eq (a := wkL) (b := wkL) ⟨by decide, by decide⟩
  rw [decide_eq_true rfl] at p6
  have p7 := g_holdP36_eq (l := wkL) (by decide)
  rw [wk_hp] at p7
  have p8 := g_equalS_eq (a := [[65, 100, 97]]) (b := [[65, 100, 97]]) ⟨by decide, by decide⟩
  rw [BEq.rfl] at p8
  have p9 := g_stripP_eq (s := [97, 10, 59, 32, 67, 111, 112, 121, 114, 105, 103, 104, 116, 58, 32, 120, 10]) (by decide)
  rw [wk_s] at p9
  simp only [eHd_eq, ePr, eFmt, eX_eq, List.map_cons, List.map_nil] at p1 p2 p3 p4 p5 p6 p7 p8 p9
  rw [start_frame (by simp)]; simp only [enumV, go_sem, emptyH]
  repeat (first
    | (apply axJ; (focus ((with_reducible constructor) <;> rfl)))
    | (apply awT mixedOK hΓ (by kernel_rfl); (simp (disch := omega) only [go_sem, ↓reduceIte, dk, ↓lk, Int.reduceBEq, Int.reduceBNe, Bool.true_bne, Bool.false_bne, Bool.not_true, Bool.not_false, Int.reduceToNat, List.getElem?_cons_zero, List.getElem?_cons_succ, BEq.rfl, ↓ty_build26, p1, p2, p3, p4, p5] <;> with_reducible rfl))
    | ((first | apply awR hΓ | apply awG | apply awH mixedOK hΓ rfl (by kernel_rfl) | apply ovE rfl); (simp (disch := omega) only [go_sem, ↓reduceIte, dk, ↓lk, Int.reduceBEq, Int.reduceBNe, Bool.true_bne, Bool.false_bne, Bool.not_true, Bool.not_false, Int.reduceToNat, List.getElem?_cons_zero, List.getElem?_cons_succ, BEq.rfl, ↓ty_build26, p1, p2, p3, p4, p5] <;> with_reducible rfl); exact trivial)
    | rfl)
  refine awp_weak (show Weak _ _ _ ((frame 72 [(1, .data (.list [.agg [.int .i64 0, .int .i64 1, .str [97, 108, 100, 101, 114, 32, 111, 114, 32, 98, 105, 114, 99, 104]], .agg [.int .i64 1, .int .i64 2, .str [65, 100, 97]]])), (3, .data (.int .i64 0)), (4, .data (.int .i64 0)), (5, .data (.str [35, 32, 76, 105, 99, 101, 110, 115, 101, 58, 32, 97, 108, 100, 101, 114])), (6, .data (.int .i64 0)), (7, .data (.str [35, 32, 76, 105, 99, 101, 110, 115, 101, 58, 32, 121, 10, 97, 10, 98])), (8, .data (.int .i64 0)), (9, .data (.str [97, 108, 100, 101, 114, 32, 111, 114, 32, 98, 105, 114, 99, 104])), (10, .data (.int .i64 0))])) ⟨[], 32⟩ from Weak.v (by (simp [ConvF, lookV, Conv, ints, Heap.get, look]; done)) (by (simp (disch := omega) only [TabSub, look, if_pos, if_neg, Obj.refsOK, refsOKs, AV.refsOK, decide_eq_true_eq, Bool.and_true, Bool.and_self, Heap.get, look] ) <;> ((repeat' apply And.intro) <;> first | exact True.intro | omega | (simp; done) | rfl))) ?_
  apply awR hΓ
  · simp (maxSteps := 4000000) (disch := omega) only [go_sem, ↓reduceIte, dk, ↓lk, Int.reduceBEq, Int.reduceBNe, Bool.true_bne, Bool.false_bne, Bool.not_true, Bool.not_false, Int.reduceToNat, Int.reduceAdd, List.getElem?_cons_zero, List.getElem?_cons_succ, BEq.rfl, List.append_eq, List.cons_append, List.nil_append, ↓ty_build26, p1, p2, p3, p4, p5, p6, p7, p8, p9]
    with_reducible rfl
  exact trivial
  repeat (first
    | (apply axJ; (focus ((with_reducible constructor) <;> rfl)))
    | (apply awT mixedOK hΓ (by kernel_rfl); (simp (disch := omega) only [go_sem, ↓reduceIte, dk] <;> with_reducible rfl))
    | ((first | apply awR hΓ | apply awG | apply awH mixedOK hΓ rfl (by kernel_rfl) | apply ovE rfl); (simp (disch := omega) only [go_sem, ↓reduceIte, dk] <;> with_reducible rfl); exact trivial)
    | rfl)
  try rfl
end Go.Ab
namespace Go.Ab
open Go Go.RowKit Go.Proofs
set_option maxRecDepth 10000
set_option maxHeartbeats 16000000
def eDR (p : LX × Int × Int) : D := .agg [.int .i64 p.1.kind, .str p.1.name, .str p.1.exc, .list (p.1.kids.map eX), .int .i64 p.2.1, .int .i64 p.2.2]
theorem any_take {l : List LX} {p : LX → Bool} {i : Nat} (hi : i < l.length) : (l.take (i + 1)).any p = ((l.take i).any p || p l[i]) := by
  rw [List.take_add_one, List.any_append, List.getElem?_eq_getElem hi]
  simp
noncomputable def g_declR36 : List D → Option D := encSpec (fun x : (List Hd) => [.list (x.map eHd)]) (fun x : (List Hd) => x.length ≤ 1000 ∧ ∀ h ∈ x, h.text.length ≤ 1099511627776) (fun x : (List Hd) => eDR (declGo [] x))
theorem g_declR36_eq {l : List Hd} (hd : l.length ≤ 1000 ∧ ∀ h ∈ l, h.text.length ≤ 1099511627776) : g_declR36 [.list (l.map eHd)] = some (eDR (declGo [] l)) := encSpec_eq (x := l) hd fun y hy => by
    simp only [List.cons.injEq, and_true, true_and, D.str.injEq, D.int.injEq, D.list.injEq, D.bool.injEq, D.agg.injEq, D.clo.injEq, Int.natCast_inj, inj_ie, lx_ie, eHd_ie] at hy
    rw [hy]
theorem f_declR36_ok : PureOK Tryz.prog 19 false g_declR36 := by
  have hΓ := Γp f_parseR_ok (Γp (f_equalR_ok 1099511627776) (Γp f_checkR_ok (Γn)))
  refine pure_enc (n := 87) (rs := [.cell 2 38]) Tryz.func19 (by kernel_rfl) rfl (by kernel_rfl) (by kernel_rfl) ?_
  rintro l hd
  (try dsimp only at hd ⊢)
  refine ⟨fun h => (by cases h), fun k hz0 => ?_⟩
  obtain ⟨hl, ht⟩ := hd
  rw [start_frame (by simp)]; simp only [enumV, go_sem, emptyH]
  repeat (first
    | (apply axJ; (focus ((with_reducible constructor) <;> rfl)))
    | (apply awT mixedOK hΓ (by kernel_rfl); (simp (disch := omega) only [go_sem, ↓reduceIte, dk, ↓lk, ↓ty_build33] <;> with_reducible rfl))
    | ((first | apply awR hΓ | apply awG | apply awH mixedOK hΓ rfl (by kernel_rfl) | apply ovE rfl); (simp (disch := omega) only [go_sem, ↓reduceIte, dk, ↓lk, ↓ty_build33] <;> with_reducible rfl); exact trivial)
    | rfl)
  refine awp_weak (Weak.boxnil (o := 2) (i := 3) 33 (sz := 4) (by omega) rfl rfl) ?_
  refine awp_loop_at (X := Nat × List LX) (fun y => (frame 87 [(0, .data (.list (l.map eHd))), (2, .ptr 0 0), (3, .ptr 2 0), (4, .data (i64 y.1))])) (fun y => [(0, .box [.data (.int .i64 0), .data (.str []), .data (.str []), .nils, .data (.int .i64 0), .data (.int .i64 0)]), (2, .box [.data (.int .i64 2), .data (.str []), .data (.str []), .row 5 y.2.length]), (5, .row 33 4 (y.2.map eX))]) 6
    (fun y => y.1 ≤ l.length ∧ y.2.length ≤ y.1 ∧ (∀ k ∈ y.2, checkE k = 0 ∧ k.Bd 1099511627776) ∧ declGo [] l = declGo y.2 (l.drop y.1)) (fun y => l.length - y.1) (0, []) ⟨Nat.zero_le _, Nat.zero_le _, fun k (hk : k ∈ ([] : List LX)) => (by cases hk), rfl⟩ (Weak.v (by (simp [ConvF, lookV, Conv, ints, upd]; done)) (by (simp (disch := omega) only [TabSub, look, if_pos, if_neg, Obj.refsOK, refsOKs, AV.refsOK, decide_eq_true_eq, Bool.and_true, Bool.and_self, upd] ) <;> ((repeat' apply And.intro) <;> first | exact True.intro | omega | (simp; done) | rfl))) ?_
  rintro ⟨i, kids⟩ ⟨h1, h2, h3, h4⟩
  dsimp only at h1 h2 h3 h4 ⊢
  by_cases hi : i < l.length
  · rw [decl_drop hi] at h4
    have htx := ht _ (List.getElem_mem hi)
    generalize hy : l[i] = y at *
    have hk : (y.kind != 0) = !isK 0 y := rfl
    generalize isK 0 y = c at *
    cases c
    · rw [if_neg (by decide)] at h4
      repeat (first
        | (apply axJ; (focus ((with_reducible constructor) <;> rfl)))
        | (apply awT mixedOK hΓ (by kernel_rfl); (simp (disch := omega) only [go_sem, ↓reduceIte, dk, ↓lk, Int.reduceBEq, Int.reduceBNe, Bool.true_bne, Bool.false_bne, Bool.not_true, Bool.not_false, hy, hk, eHd_eq] <;> with_reducible rfl))
        | ((first | apply awR hΓ | apply awG | apply awH mixedOK hΓ rfl (by kernel_rfl) | apply ovE rfl); (simp (disch := omega) only [go_sem, ↓reduceIte, dk, ↓lk, Int.reduceBEq, Int.reduceBNe, Bool.true_bne, Bool.false_bne, Bool.not_true, Bool.not_false, hy, hk, eHd_eq] <;> with_reducible rfl); exact trivial)
        | rfl)
      exact ⟨(i + 1, kids), ⟨by dsimp only; omega, by dsimp only; omega, h3, h4⟩, by dsimp only; omega, Weak.w⟩
    · rw [if_pos rfl] at h4
      have e1 := g_parseR_eq (s := y.text) htx
      obtain ⟨r1, r2⟩ := parse_rel y.text
      have hpf := @parse_form y.text
      generalize rParse y.text = r at *
      simp only [eRes] at e1
      by_cases he : r.err = 0
      · obtain ⟨hpr, q2⟩ := r2 he
        have q1 := ((hpf hpr).2 rfl).1
        rw [hpr] at h4
        dsimp only at h4
        rw [if_pos (by rfl)] at h4
        have hks : kidStep kids r.expr = if kids.any (eqX r.expr) then kids else kids ++ [r.expr] := rfl
        have hkl := kid_len kids r.expr
        have hko := kid_ok (p := fun k => checkE k = 0 ∧ k.Bd 1099511627776) h3 ⟨q1, q2⟩
        rw [hks] at h4 hkl hko
        have hb2 : (r.err != 0) = false := by simp [he]
        clear r1 r2 hpf hpr
        generalize r.expr = x at *
        generalize r.at' = ra at *
        generalize r.err = re at *
        repeat (first
          | (apply axJ; (focus ((with_reducible constructor) <;> rfl)))
          | (apply awT mixedOK hΓ (by kernel_rfl); (simp (disch := omega) only [go_sem, ↓reduceIte, dk, ↓lk, Int.reduceBEq, Int.reduceBNe, Bool.true_bne, Bool.false_bne, Bool.not_true, Bool.not_false, hy, hk, e1, hb2, eHd_eq] <;> with_reducible rfl))
          | ((first | apply awR hΓ | apply awG | apply awH mixedOK hΓ rfl (by kernel_rfl) | apply ovE rfl); (simp (disch := omega) only [go_sem, ↓reduceIte, dk, ↓lk, Int.reduceBEq, Int.reduceBNe, Bool.true_bne, Bool.false_bne, Bool.not_true, Bool.not_false, hy, hk, e1, hb2, eHd_eq] <;> with_reducible rfl); exact trivial)
          | rfl)
        refine awp_loop_at (X := Nat) (fun j => (frame 87 [(0, .data (.list (l.map eHd))), (2, .ptr 0 0), (3, .ptr 2 0), (4, .data (i64 i)), (5, .ptr 22 0), (6, .data (.bool ((kids.take j).any (eqX x)))), (7, .data (i64 j))])) (fun _ => [(0, .box [.data (.int .i64 0), .data (.str []), .data (.str []), .nils, .data (.int .i64 0), .data (.int .i64 0)]), (2, .box [.data (.int .i64 2), .data (.str []), .data (.str []), .row 5 kids.length]), (5, .row 33 4 (kids.map eX)), (22, .box [.data (.int .i64 x.kind), .data (.str x.name), .data (.str x.exc), .data (.list (x.kids.map eX)), .data (.int .i64 ra), .data (.int .i64 re)])]) 29
          (fun j => j ≤ kids.length) (fun j => kids.length - j) 0 (Nat.zero_le _) (Weak.w) ?_
        intro j hj
        (try dsimp only at hj ⊢)
        by_cases hj2 : j < kids.length
        · have hat := any_take (p := eqX x) hj2
          have hbd := (h3 _ (List.getElem_mem hj2)).2
          have e2 := g_equalR_eq (h := 1099511627776) (a := kids[j]) (b := x) ⟨Nat.le_trans (LX.hgt_le _) hbd.z, hbd, q2⟩
          rw [eqX_comm] at e2
          generalize hz : kids[j] = z at *
          generalize (kids.take j).any (eqX x) = b1 at *
          generalize eqX x z = b2 at *
          cases b1
          · repeat (first
            | (apply axJ; (focus ((with_reducible constructor) <;> rfl)))
            | (apply awT mixedOK hΓ (by kernel_rfl); (simp (disch := omega) only [go_sem, ↓reduceIte, dk, ↓lk, Int.reduceBEq, Int.reduceBNe, Bool.true_bne, Bool.false_bne, Bool.not_true, Bool.not_false, hz, e2, eX_eq] <;> with_reducible rfl))
            | ((first | apply awR hΓ | apply awG | apply awH mixedOK hΓ rfl (by kernel_rfl) | apply ovE rfl); (simp (disch := omega) only [go_sem, ↓reduceIte, dk, ↓lk, Int.reduceBEq, Int.reduceBNe, Bool.true_bne, Bool.false_bne, Bool.not_true, Bool.not_false, hz, e2, eX_eq] <;> with_reducible rfl); exact trivial)
            | rfl)
            exact ⟨j + 1, by omega, by omega, by rw [hat]; exact Weak.w⟩
          · repeat (first
            | (apply axJ; (focus ((with_reducible constructor) <;> rfl)))
            | (apply awT mixedOK hΓ (by kernel_rfl); (simp (disch := omega) only [go_sem, ↓reduceIte, dk, ↓lk, Int.reduceBEq, Int.reduceBNe, Bool.true_bne, Bool.false_bne, Bool.not_true, Bool.not_false, hz] <;> with_reducible rfl))
            | ((first | apply awR hΓ | apply awG | apply awH mixedOK hΓ rfl (by kernel_rfl) | apply ovE rfl); (simp (disch := omega) only [go_sem, ↓reduceIte, dk, ↓lk, Int.reduceBEq, Int.reduceBNe, Bool.true_bne, Bool.false_bne, Bool.not_true, Bool.not_false, hz] <;> with_reducible rfl); exact trivial)
            | rfl)
            exact ⟨j + 1, by omega, by omega, by rw [hat]; exact Weak.w⟩
        · have hj3 : j = kids.length := by omega
          subst hj3
          rw [List.take_length]
          generalize kids.any (eqX x) = b at *
          cases b
          · rw [if_neg (by decide)] at h4 hkl hko
            have hm : (kids ++ [x]).map eX = kids.map eX ++ [.agg [.int .i64 x.kind, .str x.name, .str x.exc, .list (x.kids.map eX)]] := by rw [List.map_append, List.map_cons, List.map_nil, eX_eq]
            repeat (first
              | (apply axJ; (focus ((with_reducible constructor) <;> rfl)))
              | (apply awT mixedOK hΓ (by kernel_rfl); (simp (disch := omega) only [go_sem, ↓reduceIte, dk, ↓lk, Int.reduceBEq, Int.reduceBNe, Bool.true_bne, Bool.false_bne, Bool.not_true, Bool.not_false] <;> with_reducible rfl))
              | ((first | apply awR hΓ | apply awG | apply awH mixedOK hΓ rfl (by kernel_rfl) | apply ovE rfl); (simp (disch := omega) only [go_sem, ↓reduceIte, dk, ↓lk, Int.reduceBEq, Int.reduceBNe, Bool.true_bne, Bool.false_bne, Bool.not_true, Bool.not_false] <;> with_reducible rfl); exact trivial)
              | rfl)
            exact ⟨(i + 1, kids ++ [x]), ⟨by dsimp only; omega, by dsimp only; omega, hko, h4⟩, by dsimp only; omega, Weak.v (by (simp [ConvF, lookV, Conv, ints, hm]; done)) (by (simp (disch := omega) only [TabSub, look, if_pos, if_neg, Obj.refsOK, refsOKs, AV.refsOK, decide_eq_true_eq, Bool.and_true, Bool.and_self, hm] ) <;> ((repeat' apply And.intro) <;> first | exact True.intro | omega | (simp; done) | rfl))⟩
          · rw [if_pos rfl] at h4
            repeat (first
              | (apply axJ; (focus ((with_reducible constructor) <;> rfl)))
              | (apply awT mixedOK hΓ (by kernel_rfl); (simp (disch := omega) only [go_sem, ↓reduceIte, dk, ↓lk, Int.reduceBEq, Int.reduceBNe, Bool.true_bne, Bool.false_bne, Bool.not_true, Bool.not_false] <;> with_reducible rfl))
              | ((first | apply awR hΓ | apply awG | apply awH mixedOK hΓ rfl (by kernel_rfl) | apply ovE rfl); (simp (disch := omega) only [go_sem, ↓reduceIte, dk, ↓lk, Int.reduceBEq, Int.reduceBNe, Bool.true_bne, Bool.false_bne, Bool.not_true, Bool.not_false] <;> with_reducible rfl); exact trivial)
              | rfl)
            exact ⟨(i + 1, kids), ⟨by dsimp only; omega, by dsimp only; omega, h3, h4⟩, by dsimp only; omega, Weak.w⟩
      · have hpr := r1 he
        rw [hpr] at h4
        dsimp only at h4
        have hb : (r.err == 0) = false := by simpa using he
        have hb2 : (r.err != 0) = true := by simpa [bne] using he
        rw [if_neg (by rw [hb]; decide)] at h4
        rw [h4]
        (repeat (first | (apply axJ; (focus ((with_reducible constructor) <;> rfl))) | ((first | apply awR hΓ | apply awG | apply ovE rfl); (simp (disch := omega) only [go_sem, ↓reduceIte, dk, ↓lk, Int.reduceBEq, Int.reduceBNe, Bool.true_bne, Bool.false_bne, Bool.not_true, Bool.not_false, hy, hk, e1, hb2, eHd_eq] <;> with_reducible rfl); exact trivial) | rfl))
        (apply awp_regd (nst := false) 8 mixedOK hΓ; (focus kernel_rfl); (simp (disch := omega) only [go_sem, ↓reduceIte, dk, ↓lk, ↓ty_build38, Int.reduceBEq, Int.reduceBNe, Bool.true_bne, Bool.false_bne, Bool.not_true, Bool.not_false, hy, eHd_eq] <;> with_reducible rfl); (simp only [go_sem] <;> with_reducible rfl); (simp (disch := omega) only [go_sem, ↓reduceIte, dk, ↓lk, ↓ty_build38, Int.reduceBEq, Int.reduceBNe, Bool.true_bne, Bool.false_bne, Bool.not_true, Bool.not_false, hy, eHd_eq] <;> with_reducible rfl))
        repeat (first
          | (apply axJ; (focus ((with_reducible constructor) <;> rfl)))
          | (apply awT mixedOK hΓ (by kernel_rfl); (simp (disch := omega) only [go_sem, ↓reduceIte, dk, ↓lk, Int.reduceBEq, Int.reduceBNe, Bool.true_bne, Bool.false_bne, Bool.not_true, Bool.not_false] <;> with_reducible rfl))
          | ((first | apply awR hΓ | apply awG | apply awH mixedOK hΓ rfl (by kernel_rfl) | apply ovE rfl); (simp (disch := omega) only [go_sem, ↓reduceIte, dk, ↓lk, Int.reduceBEq, Int.reduceBNe, Bool.true_bne, Bool.false_bne, Bool.not_true, Bool.not_false] <;> with_reducible rfl); exact trivial)
          | rfl)
        try rfl
  · have hi2 : i = l.length := by omega
    subst hi2
    rw [List.drop_length, declGo, ← sum_eq (fun k hk => (h3 k hk).1)] at h4
    rw [h4]
    match kids, h2, h3 with
    | [], _, _ =>
      rw [show sumR [] = (x0, -1, 7) from rfl]
      have hn0 : (((0 : Nat) : Int) == 0) = true := rfl
      repeat (first
        | (apply axJ; (focus ((with_reducible constructor) <;> rfl)))
        | (apply awT mixedOK hΓ (by kernel_rfl); (simp (disch := omega) only [go_sem, ↓reduceIte, dk, ↓lk, Int.reduceBEq, Int.reduceBNe, Bool.true_bne, Bool.false_bne, Bool.not_true, Bool.not_false, ↓ty_build38, hn0] <;> with_reducible rfl))
        | ((first | apply awR hΓ | apply awG | apply awH mixedOK hΓ rfl (by kernel_rfl) | apply ovE rfl); (simp (disch := omega) only [go_sem, ↓reduceIte, dk, ↓lk, Int.reduceBEq, Int.reduceBNe, Bool.true_bne, Bool.false_bne, Bool.not_true, Bool.not_false, ↓ty_build38, hn0] <;> with_reducible rfl); exact trivial)
        | rfl)
      try rfl
    | [x], h2, h3 =>
      obtain ⟨c1, c2⟩ := h3 x (by simp)
      rw [show sumR [x] = if checkE x == 0 then (x, 0, 0) else (x0, -1, checkE x) from rfl]
      have hn0 : (((1 : Nat) : Int) == 0) = false := rfl
      have hn1 : (((1 : Nat) : Int) == 1) = true := rfl
      have hl1 : ([x] : List LX).length = 1 := rfl
      have hx0 : ∀ h, ([x] : List LX)[0]'h = x := fun _ => rfl
      have e1 := g_checkR_eq c2
      rw [c1] at e1 ⊢
      generalize [x] = kids at *
      repeat (first
        | (apply axJ; (focus ((with_reducible constructor) <;> rfl)))
        | (apply awT mixedOK hΓ (by kernel_rfl); (simp (disch := omega) only [go_sem, ↓reduceIte, dk, ↓lk, Int.reduceBEq, Int.reduceBNe, Bool.true_bne, Bool.false_bne, Bool.not_true, Bool.not_false, Int.reduceToNat, List.getElem?_cons_zero, List.getElem?_cons_succ, ↓ty_build38, hn0, hn1, hl1, hx0, Int.reduceToNat, e1, eX_eq] <;> with_reducible rfl))
        | ((first | apply awR hΓ | apply awG | apply awH mixedOK hΓ rfl (by kernel_rfl) | apply ovE rfl); (simp (disch := omega) only [go_sem, ↓reduceIte, dk, ↓lk, Int.reduceBEq, Int.reduceBNe, Bool.true_bne, Bool.false_bne, Bool.not_true, Bool.not_false, Int.reduceToNat, List.getElem?_cons_zero, List.getElem?_cons_succ, ↓ty_build38, hn0, hn1, hl1, hx0, Int.reduceToNat, e1, eX_eq] <;> with_reducible rfl); exact trivial)
        | rfl)
      try rfl
    | x :: y :: r, h2, h3 =>
      have hbd := and_bd h3 (by omega)
      have hs : sumR (x :: y :: r) = if checkE (.mk 2 [] [] (x :: y :: r)) == 0 then (.mk 2 [] [] (x :: y :: r), 0, 0) else (x0, -1, checkE (.mk 2 [] [] (x :: y :: r))) := rfl
      rw [hs]
      have e1 := g_checkR_eq hbd
      have hn0 : (((x :: y :: r).length : Int) == 0) = false := by rw [beq_eq_false_iff_ne, List.length_cons]; omega
      have hn1 : (((x :: y :: r).length : Int) == 1) = false := by rw [beq_eq_false_iff_ne, List.length_cons, List.length_cons]; omega
      simp only [lx_kind, lx_name, lx_exc, lx_kids] at e1
      generalize checkE (.mk 2 [] [] (x :: y :: r)) = e at *
      generalize x :: y :: r = kids at *
      by_cases he : e = 0
      · subst he
        repeat (first
          | (apply axJ; (focus ((with_reducible constructor) <;> rfl)))
          | (apply awT mixedOK hΓ (by kernel_rfl); (simp (disch := omega) only [go_sem, ↓reduceIte, dk, ↓lk, Int.reduceBEq, Int.reduceBNe, Bool.true_bne, Bool.false_bne, Bool.not_true, Bool.not_false, ↓ty_build38, hn0, hn1, e1] <;> with_reducible rfl))
          | ((first | apply awR hΓ | apply awG | apply awH mixedOK hΓ rfl (by kernel_rfl) | apply ovE rfl); (simp (disch := omega) only [go_sem, ↓reduceIte, dk, ↓lk, Int.reduceBEq, Int.reduceBNe, Bool.true_bne, Bool.false_bne, Bool.not_true, Bool.not_false, ↓ty_build38, hn0, hn1, e1] <;> with_reducible rfl); exact trivial)
          | rfl)
        try rfl
      · have hb : (e == 0) = false := by simpa using he
        have hb2 : (e != 0) = true := by simpa [bne] using he
        rw [hb]
        repeat (first
          | (apply axJ; (focus ((with_reducible constructor) <;> rfl)))
          | (apply awT mixedOK hΓ (by kernel_rfl); (simp (disch := omega) only [go_sem, ↓reduceIte, dk, ↓lk, Int.reduceBEq, Int.reduceBNe, Bool.true_bne, Bool.false_bne, Bool.not_true, Bool.not_false, ↓ty_build38, hn0, hn1, e1, hb2] <;> with_reducible rfl))
          | ((first | apply awR hΓ | apply awG | apply awH mixedOK hΓ rfl (by kernel_rfl) | apply ovE rfl); (simp (disch := omega) only [go_sem, ↓reduceIte, dk, ↓lk, Int.reduceBEq, Int.reduceBNe, Bool.true_bne, Bool.false_bne, Bool.not_true, Bool.not_false, ↓ty_build38, hn0, hn1, e1, hb2] <;> with_reducible rfl); exact trivial)
          | rfl)
        try rfl
end Go.Ab
namespace Go.Ab
open Go Go.RowKit Go.Proofs
set_option maxRecDepth 10000
set_option maxHeartbeats 16000000
theorem scanB_len (s : Bs) : (scanB s).length ≤ s.length + 1 := Nat.le_trans (scanGo_len _ _) (splitB_len 10 s)
theorem fewH_len {l : List Hd} (h : fewH l = true) : l.length ≤ 30 ∧ sumT l ≤ 1500 := by
  unfold fewH at h
  simp only [Bool.and_eq_true, Bool.not_eq_true', decide_eq_false_iff_not, decide_eq_true_eq] at h
  omega
theorem holdP_len (l : List Hd) : (holdP l).length ≤ l.length := by
  unfold holdP
  have h1 := comp_len (sortB (holdT l))
  have h2 := sortB_len (holdT l)
  have h3 := holdT_len l
  omega
noncomputable def g_law36b : List D → Option D := encSpec (fun x : (List Hd) => [.list (x.map eHd)]) (fun x : (List Hd) => x.length ≤ 1099511627776 ∧ ∀ h ∈ x, h.text.length ≤ 1099511627776) (fun x : (List Hd) => .bool true)
theorem f_law36b_ok : PureOK Tryz.prog 4 true g_law36b := by
  have hΓ := Γp f_wk36_ok (Γp f_fewR36_ok (Γp f_declP_ok (Γp f_declR36_ok (Γp (f_equalR_ok 1099511627776) (Γp f_holdP36_ok (Γp f_holdR36_ok (Γp f_sameS31_ok (Γn))))))))
  refine pure_enc (n := 43) (rs := [.tmp 2]) Tryz.func4 (by kernel_rfl) rfl (by kernel_rfl) (by kernel_rfl) ?_
  rintro l hd
  (try dsimp only at hd ⊢)
  refine ⟨fun _ => by (repeat (first | exact .int _ _ | exact .bool _ | exact .str _ | (refine .tup _ (fun d hd => ?_); simp only [List.mem_cons, List.not_mem_nil, or_false] at hd; rcases hd with rfl | hd))), fun k hz0 => ?_⟩
  have e0 := g_wk36_eq
  have e1 := g_fewR36_eq hd
  obtain ⟨d1, d2⟩ := hd
  have hf := @fewH_len l
  rw [start_frame (by simp)]; simp only [enumV, go_sem, emptyH]
  generalize fewH l = c at *
  cases c
  · repeat (first
    | (apply axJ; (focus ((with_reducible constructor) <;> rfl)))
    | (apply awT mixedOK hΓ (by kernel_rfl); (simp (disch := omega) only [go_sem, ↓reduceIte, dk, ↓lk, Int.reduceBEq, Int.reduceBNe, Bool.true_bne, Bool.false_bne, Bool.not_true, Bool.not_false, e0, e1] <;> with_reducible rfl))
    | ((first | apply awR hΓ | apply awG | apply awH mixedOK hΓ rfl (by kernel_rfl) | apply ovE rfl); (simp (disch := omega) only [go_sem, ↓reduceIte, dk, ↓lk, Int.reduceBEq, Int.reduceBNe, Bool.true_bne, Bool.false_bne, Bool.not_true, Bool.not_false, e0, e1] <;> with_reducible rfl); exact trivial)
    | rfl)
    try rfl
  obtain ⟨f1, f2⟩ := hf rfl
  have e2 := g_declP_eq (l := l) ⟨by omega, d2⟩
  have e3 := g_declR36_eq (l := l) ⟨by omega, d2⟩
  have hbd := decl_inv l [] (fun k (hk : k ∈ ([] : List LX)) => by cases hk) (by simp; omega)
  have e4 := g_holdP36_eq (l := l) (by omega)
  have e5 := g_holdR36_eq (l := l) (by omega)
  rw [← hold_eq] at e5
  have hhl := holdP_len l
  have e6 := g_sameS31_eq (a := holdP l) (b := holdP l) ⟨by omega, by omega⟩
  rw [BEq.rfl] at e6
  generalize holdP l = hs at *
  generalize declGo [] l = p at *
  obtain ⟨x, a, e⟩ := p
  dsimp only at hbd
  have e7 := g_equalR_eq (h := 1099511627776) (a := x) (b := x) ⟨Nat.le_trans x.hgt_le hbd.z, hbd, hbd⟩
  rw [eqX_refl] at e7
  simp only [ePr, eDR, eX_eq] at e2 e3 e7
  repeat (first
    | (apply axJ; (focus ((with_reducible constructor) <;> rfl)))
    | (apply awT mixedOK hΓ (by kernel_rfl); (simp (disch := omega) only [go_sem, ↓reduceIte, dk, ↓lk, Int.reduceBEq, Int.reduceBNe, Bool.true_bne, Bool.false_bne, Bool.not_true, Bool.not_false, BEq.rfl, e0, e1, e2, e3, e4, e5, e6, e7] <;> with_reducible rfl))
    | ((first | apply awR hΓ | apply awG | apply awH mixedOK hΓ rfl (by kernel_rfl) | apply ovE rfl); (simp (disch := omega) only [go_sem, ↓reduceIte, dk, ↓lk, Int.reduceBEq, Int.reduceBNe, Bool.true_bne, Bool.false_bne, Bool.not_true, Bool.not_false, BEq.rfl, e0, e1, e2, e3, e4, e5, e6, e7] <;> with_reducible rfl); exact trivial)
    | rfl)
  try rfl
end Go.Ab
