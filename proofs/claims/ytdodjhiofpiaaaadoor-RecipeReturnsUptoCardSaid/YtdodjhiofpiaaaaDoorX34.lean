/-
  One text of the proof (own work): contracts of functions of the program, by the abstract machine.
-/
import Derived.Test.YtdodjhiofpiaaaaDoorX19
import Derived.Test.YtdodjhiofpiaaaaDoorX33
set_option linter.unusedVariables false
set_option linter.unusedSimpArgs false
namespace Go.Ab
open Go Go.RowKit Go.Proofs Go.Shelf
set_option maxRecDepth 10000
set_option maxHeartbeats 16000000
theorem rows_bd (w : Bs) : (rowsB w).1.length ≤ 1099511627776 ∧ ∀ r ∈ (rowsB w).1, r.length ≤ 1099511627776 := by
  have hall : ∀ rw ∈ [rw_compile, rw_archive, rw_share, rw_link, rw_run, rw_patch, rw_copy, rw_install, []], rw.length ≤ 4 ∧ ∀ r ∈ rw, r.length ≤ 4 := by
    unfold rw_compile rw_archive rw_share rw_link rw_run rw_patch rw_copy rw_install
    decide
  have h4 : (rowsB w).1.length ≤ 4 ∧ ∀ r ∈ (rowsB w).1, r.length ≤ 4 := by
    unfold rowsB
    repeat' split
    all_goals (apply hall; simp)
  exact ⟨by omega, fun r hr => by have := h4.2 r hr; omega⟩
def inA (b : Bool) (R : Nat) (l : List Bs) : AV := match b with
  | true => .data (.list (l.map .str))
  | false => .row R l.length
def inT (b : Bool) (R : Nat) (l : List Bs) : List (Nat × Obj) := match b with
  | true => []
  | false => [(R, .row 9 1 (l.map .str))]
theorem stF_keep (kind : Int) : ∀ (gs : List Gp) (x : Stp), (gs.foldl (stF kind) x).line = x.line ∧ (gs.foldl (stF kind) x).kind = x.kind
  | [], _ => ⟨rfl, rfl⟩
  | g :: gs, x => by
    have h := stF_keep kind gs (stF kind x g)
    have h2 : (stF kind x g).line = x.line ∧ (stF kind x g).kind = x.kind := by
      unfold stF
      repeat' split
      all_goals exact ⟨rfl, rfl⟩
    exact ⟨h.1.trans h2.1, h.2.trans h2.2⟩
theorem stF_step {kind : Int} {gs : List Gp} {x : Stp} {i : Nat} (hi : i < gs.length) : (gs.take (i + 1)).foldl (stF kind) x = stF kind ((gs.take i).foldl (stF kind) x) gs[i] := by
  rw [List.take_add_one, List.getElem?_eq_getElem hi, List.foldl_append]
  rfl
theorem stF_eq (kind xl xk : Int) (xi xu xw : List Bs) (xo nm : Bs) (wd : List Bs) : stF kind ⟨xl, xk, xi, xu, xw, xo⟩ ⟨nm, wd⟩ =
  if nm == [116, 111] || nm == [97, 115] then ⟨xl, xk, xi, xu, xw, wd.headD []⟩
  else if nm == [117, 115, 105, 110, 103] then ⟨xl, xk, xi, wd, xw, xo⟩
  else if kind == 1 && nm == [119, 105, 116, 104] then ⟨xl, xk, xi, xu, wd, xo⟩
  else if kind == 4 && nm == [] then ⟨xl, xk, wd.drop 1, xu, wd.take 1, xo⟩
  else ⟨xl, xk, xi ++ wd, xu, xw, xo⟩ := rfl
noncomputable def g_stepPr : List D → Option D := encSpec (fun x : Int × (List Bs) => [i64 x.1, .list (x.2.map .str)]) (fun x : Int × (List Bs) => x.2 ≠ [] ∧ x.2.length ≤ 1000000 ∧ ∀ w ∈ x.2, w.length ≤ 1000000) (fun x : Int × (List Bs) => eLn (stepP x.1 x.2))
theorem g_stepPr_eq {line : Int} {ws : List Bs} (hd : ws ≠ [] ∧ ws.length ≤ 1000000 ∧ ∀ w ∈ ws, w.length ≤ 1000000) : g_stepPr [.int .i64 line, .list (ws.map .str)] = some (eLn (stepP line ws)) := encSpec_eq (x := (line, ws)) hd fun y hy => by
    obtain ⟨y0, y1⟩ := y; simp only [List.cons.injEq, and_true, true_and, D.str.injEq, D.int.injEq, D.list.injEq, D.bool.injEq, D.agg.injEq, D.clo.injEq, Int.natCast_inj, inj_ie, eSt_ie, eSts_ie] at hy
    (try obtain ⟨rfl, rfl⟩ := hy)
    (try subst_vars)
    rfl
theorem f_stepPr_ok : PureOK Tryd.prog 23 false g_stepPr := by
  have hΓ := Γp f_sCont_ok (Γp f_rowsP_ok (Γp f_groups_ok (Γp f_anyF_ok (Γp f_anyN_ok (Γn)))))
  refine pure_enc (n := 119) (rs := [.cell 4 34, .tmp 5]) Tryd.func23 (by kernel_rfl) rfl (by kernel_rfl) (by kernel_rfl) ?_
  rintro ⟨line, ws⟩ hd
  (try dsimp only at hd ⊢)
  refine ⟨fun h => (by cases h), fun k hz0 => ?_⟩
  obtain ⟨hne, hl, hw⟩ := hd
  have hpos : 0 < ws.length := List.length_pos_iff.2 hne
  have e1 := g_sCont_eq (l := ws) (s := []) (Nat.le_trans hl (by decide))
  have hbig : ∀ w ∈ ws, w.length ≤ 1099511627776 := fun w hx => Nat.le_trans (hw w hx) (by decide)
  have hhd : ws.headD [] ∈ ws := by
    cases ws with
    | nil => exact absurd rfl hne
    | cons w r => simp
  have htl : ∀ w ∈ ws.tail, w.length ≤ 1099511627776 := fun w hx => hbig w (List.mem_of_mem_tail hx)
  have hh0 : ∀ h : 0 < ws.length, ws[0]'h = ws.headD [] := fun h => by cases ws with | nil => exact absurd rfl hne | cons w r => rfl
  have ht0 : List.take (ws.length - 1) (List.drop 1 ws) = ws.tail := by rw [List.take_of_length_le (by rw [List.length_drop]; omega), List.drop_one]
  have hd0 : (ws.map D.str).drop 1 = ws.tail.map D.str := by rw [← List.map_drop, List.drop_one]
  have htk : List.take (ws.length - 1) (ws.tail.map D.str) = ws.tail.map D.str := List.take_of_length_le (by rw [List.length_map, List.length_tail]; omega)
  have e2 : g_rowsP [.str (ws.headD [])] = some (.tup [.list ((rowsB (ws.headD [])).1.map eRow), .int .i64 (rowsB (ws.headD [])).2]) := g_rowsP_eq (hbig _ hhd)
  have e3 := g_groups_eq (l := ws.tail) ⟨by rw [List.length_tail]; omega, htl⟩
  have hgs1 := gList_len [] ws.tail
  have hgs2 := gList_all (P := fun w => w.length ≤ 1099511627776) (nm := []) (l := ws.tail) (by simp) htl
  have hgs3 := gList_wl [] ws.tail
  rw [List.length_tail] at hgs1 hgs3
  have hgok : ∀ g ∈ gList [] ws.tail, GpOK g := fun g hg => ⟨by have := hgs3 g hg; omega, (hgs2 g hg).2⟩
  obtain ⟨hr1, hr2⟩ := rows_bd (ws.headD [])
  have e4 := g_anyF_eq (l := (rowsB (ws.headD [])).1) (gs := gList [] ws.tail) ⟨hr1, hr2, by omega, hgok⟩
  have e5 := fun kd => g_anyN_eq (l := gList [] ws.tail) (kind := kd) ⟨by omega, hgok⟩
  have hff := fits_facts (w := ws.headD []) (gs := gList [] ws.tail)
  have hgw : ∀ g ∈ gList [] ws.tail, g.words.length ≤ 1000000 := fun g hg => by have := hgs3 g hg; omega
  unfold stepP
  generalize rowsB (ws.headD []) = rk at *
  obtain ⟨rs, kind⟩ := rk
  dsimp only at e2 e4 hff ⊢
  replace e5 := e5 kind
  clear hgs2 hgs3 hr1 hr2 hhd htl
  generalize gList [] ws.tail = gs at *
  generalize hw0 : ws.headD [] = w0 at *
  generalize hts : ws.tail = ts at *
  generalize (rs.any fun r => fitsB gs r) = c2 at *
  generalize hasB ws [] = c1 at *
  rw [start_frame (by simp)]; simp only [enumV, go_sem, emptyH]
  cases c1
  rotate_left
  · repeat (first
    | (apply axJ; (focus ((with_reducible constructor) <;> rfl)))
    | (apply awT mixedOK hΓ (by kernel_rfl); (simp (disch := omega) only [go_sem, ↓reduceIte, dk, ↓lk, ↓ty_build34, e1] <;> with_reducible rfl))
    | ((first | apply awR hΓ | apply awG | apply awH mixedOK hΓ rfl (by kernel_rfl) | apply ovE rfl); (simp (disch := omega) only [go_sem, ↓reduceIte, dk, ↓lk, ↓ty_build34, e1] <;> with_reducible rfl); exact trivial)
    | rfl)
    try rfl
  cases c2
  · repeat (first
    | (apply axJ; (focus ((with_reducible constructor) <;> rfl)))
    | (apply awT mixedOK hΓ (by kernel_rfl); (simp (disch := omega) only [go_sem, ↓reduceIte, dk, ↓lk, Int.reduceBEq, Int.reduceBNe, Bool.true_bne, Bool.false_bne, Bool.not_true, Bool.not_false, Int.reduceToNat, List.getElem?_cons_zero, List.getElem?_cons_succ, ↓ty_build34, e1, e2, e3, e4, hh0, hd0, htk] <;> with_reducible rfl))
    | ((first | apply awR hΓ | apply awG | apply awH mixedOK hΓ rfl (by kernel_rfl) | apply ovE rfl); (simp (disch := omega) only [go_sem, ↓reduceIte, dk, ↓lk, Int.reduceBEq, Int.reduceBNe, Bool.true_bne, Bool.false_bne, Bool.not_true, Bool.not_false, Int.reduceToNat, List.getElem?_cons_zero, List.getElem?_cons_succ, ↓ty_build34, e1, e2, e3, e4, hh0, hd0, htk] <;> with_reducible rfl); exact trivial)
    | rfl)
    try rfl
  obtain ⟨hf1, hf2⟩ := hff rfl
  unfold stpE
  generalize (gs.any fun g => !nmG kind g) = c3 at *
  cases c3
  rotate_left
  · repeat (first
    | (apply axJ; (focus ((with_reducible constructor) <;> rfl)))
    | (apply awT mixedOK hΓ (by kernel_rfl); (simp (disch := omega) only [go_sem, ↓reduceIte, dk, ↓lk, Int.reduceBEq, Int.reduceBNe, Bool.true_bne, Bool.false_bne, Bool.not_true, Bool.not_false, Int.reduceToNat, List.getElem?_cons_zero, List.getElem?_cons_succ, ↓ty_build34, e1, e2, e3, e4, e5, hh0, hd0, htk] <;> with_reducible rfl))
    | ((first | apply awR hΓ | apply awG | apply awH mixedOK hΓ rfl (by kernel_rfl) | apply ovE rfl); (simp (disch := omega) only [go_sem, ↓reduceIte, dk, ↓lk, Int.reduceBEq, Int.reduceBNe, Bool.true_bne, Bool.false_bne, Bool.not_true, Bool.not_false, Int.reduceToNat, List.getElem?_cons_zero, List.getElem?_cons_succ, ↓ty_build34, e1, e2, e3, e4, e5, hh0, hd0, htk] <;> with_reducible rfl); exact trivial)
    | rfl)
    try rfl
  repeat (first
    | (apply axJ; (focus ((with_reducible constructor) <;> rfl)))
    | (apply awT mixedOK hΓ (by kernel_rfl); (simp (disch := omega) only [go_sem, ↓reduceIte, dk, ↓lk, Int.reduceBEq, Int.reduceBNe, Bool.true_bne, Bool.false_bne, Bool.not_true, Bool.not_false, Int.reduceToNat, List.getElem?_cons_zero, List.getElem?_cons_succ, ↓ty_build34, e1, e2, e3, e4, e5, hh0, hd0, htk] <;> with_reducible rfl))
    | ((first | apply awR hΓ | apply awG | apply awH mixedOK hΓ rfl (by kernel_rfl) | apply ovE rfl); (simp (disch := omega) only [go_sem, ↓reduceIte, dk, ↓lk, Int.reduceBEq, Int.reduceBNe, Bool.true_bne, Bool.false_bne, Bool.not_true, Bool.not_false, Int.reduceToNat, List.getElem?_cons_zero, List.getElem?_cons_succ, ↓ty_build34, e1, e2, e3, e4, e5, hh0, hd0, htk] <;> with_reducible rfl); exact trivial)
    | rfl)
  generalize hd1 : (kind == 4) = d1
  have hf4 : d1 = true → ∀ g ∈ gs, g.name = [] ∨ g.name = kUsing ∨ g.name = kTo := fun h => hf2 (by rw [h] at hd1; exact eq_of_beq hd1)
  refine awp_loop_at (X := Nat) (fun i => (frame 119 [(4, .ptr 0 0), (6, .ptr 3 0), (8, .ptr 14 0), (10, .ptr 32 0), (41, .data (.list (gs.map eGp))), (42, .data (i64 gs.length)), (43, .data (i64 i))]))
    (fun i => (0, .box [.data (.int .i64 0), .data (.int .i64 0), .nils, .nils, .nils, .data (.str [])]) :: (3, .box [.data (.int .i64 0), .data (.int .i64 0), .nils, .nils, .nils, .data (.str [])]) :: (14, .box [.data (i64 kind)]) :: (32, .box [.data (i64 line), .data (i64 kind), inA d1 37 ((gs.take i).foldl (stF kind) ⟨line, kind, [], [], [], []⟩).inn, .data (.list (((gs.take i).foldl (stF kind) ⟨line, kind, [], [], [], []⟩).usg.map .str)), .data (.list (((gs.take i).foldl (stF kind) ⟨line, kind, [], [], [], []⟩).wds.map .str)), .data (.str ((gs.take i).foldl (stF kind) ⟨line, kind, [], [], [], []⟩).out)]) :: inT d1 37 ((gs.take i).foldl (stF kind) ⟨line, kind, [], [], [], []⟩).inn) 38
    (fun i => i ≤ gs.length ∧ ((gs.take i).foldl (stF kind) ⟨line, kind, [], [], [], []⟩).inn.length ≤ i * 1000000 ∧ ((gs.take i).foldl (stF kind) ⟨line, kind, [], [], [], []⟩).wds.length ≤ 1000000) (fun i => gs.length - i) 0 ⟨Nat.zero_le _, Nat.zero_le _, Nat.zero_le _⟩ ?_ ?_
  · cases d1
    · refine (Weak.boxnil (o := 32) (i := 2) 9 (sz := 1) (by omega) rfl rfl).trans ?_
      refine (Weak.boxConv (o := 32) (cs' := [.data (i64 line), .data (i64 kind), .row 37 0, .data (.list []), .data (.list []), .data (.str [])]) rfl (by (repeat' (first | exact True.intro | apply And.intro | exact rfl | exact Or.inl rfl | exact Or.inr (Or.inl ⟨rfl, rfl⟩) | exact Or.inr (Or.inr ⟨_, _, rfl, rfl, by simp⟩))); done)).trans ?_
      exact Weak.v (by (simp [ConvF, lookV, Conv, ints, upd, Heap.set, inA, inT, List.take_zero, List.foldl_nil]; done)) (by (simp (disch := omega) only [TabSub, look, if_pos, if_neg, Obj.refsOK, refsOKs, AV.refsOK, decide_eq_true_eq, Bool.and_true, Bool.and_self, upd, Heap.set, inA, inT, List.take_zero, List.foldl_nil] ) <;> ((repeat' apply And.intro) <;> first | exact True.intro | omega | (simp; done) | rfl))
    · refine (Weak.boxConv (o := 32) (cs' := [.data (i64 line), .data (i64 kind), .data (.list []), .data (.list []), .data (.list []), .data (.str [])]) rfl (by (repeat' (first | exact True.intro | apply And.intro | exact rfl | exact Or.inl rfl | exact Or.inr (Or.inl ⟨rfl, rfl⟩) | exact Or.inr (Or.inr ⟨_, _, rfl, rfl, by simp⟩))); done)).trans ?_
      exact Weak.v (by (simp [ConvF, lookV, Conv, ints, upd, Heap.set, inA, inT, List.take_zero, List.foldl_nil]; done)) (by (simp (disch := omega) only [TabSub, look, if_pos, if_neg, Obj.refsOK, refsOKs, AV.refsOK, decide_eq_true_eq, Bool.and_true, Bool.and_self, upd, Heap.set, inA, inT, List.take_zero, List.foldl_nil] ) <;> ((repeat' apply And.intro) <;> first | exact True.intro | omega | (simp; done) | rfl))
  rintro i ⟨hi, hb, hb'⟩
  by_cases hi2 : i < gs.length
  · have hst := stF_step (kind := kind) (x := ⟨line, kind, [], [], [], []⟩) hi2
    have hmem := List.getElem_mem hi2
    have hwne := hf1 _ hmem
    have hwl := hgw _ hmem
    have h4 := fun h => hf4 h _ hmem
    generalize hy : gs[i] = g at *
    obtain ⟨nm, wd⟩ := g
    dsimp only at hwne hwl h4
    have hwp : 0 < wd.length := List.length_pos_iff.2 hwne
    have hw0 : ∀ h : 0 < wd.length, wd[0]'h = wd.headD [] := fun h => by cases wd with | nil => exact absurd rfl hwne | cons w r => rfl
    generalize (gs.take i).foldl (stF kind) ⟨line, kind, [], [], [], []⟩ = x at *
    obtain ⟨xl, xk, xi, xu, xw, xo⟩ := x
    rw [stF_eq] at hst
    dsimp only at hb hb' ⊢
    unfold kUsing kTo at h4
    have hn1 := fun h : nm = [] => (show (nm == []) = true by rw [h]; rfl)
    have hn2 := fun h : nm = [117, 115, 105, 110, 103] => (show (nm == [117, 115, 105, 110, 103]) = true by rw [h]; rfl)
    have hn3 := fun h : nm = [116, 111] => (show (nm == [116, 111]) = true by rw [h]; rfl)
    generalize hb1 : (nm == [116, 111]) = b1 at *
    generalize hb2 : (nm == [97, 115]) = b2 at *
    generalize hu1 : (nm == [117, 115, 105, 110, 103]) = u1 at *
    generalize ha2 : (nm == [119, 105, 116, 104]) = a2 at *
    generalize he1 : (nm == []) = e1 at *
    generalize ha1 : (kind == 1) = a1 at *
    rw [hd1] at hst
    have hdt : (wd.map D.str).take 1 = (wd.take 1).map D.str := List.map_take.symm
    have hdd : (wd.map D.str).drop 1 = (wd.drop 1).map D.str := List.map_drop.symm
    have hdl : List.take (wd.length - 1) ((wd.drop 1).map D.str) = (wd.drop 1).map D.str := List.take_of_length_le (by simp)
    cases b1
    rotate_left
    · simp only [Bool.true_or, if_true] at hst
      cases d1
      · repeat (first
        | (apply axJ; (focus ((with_reducible constructor) <;> rfl)))
        | (apply awT mixedOK hΓ (by kernel_rfl); (simp (disch := omega) only [go_sem, ↓reduceIte, dk, ↓lk, Int.reduceBEq, Int.reduceBNe, Bool.true_bne, Bool.false_bne, Bool.not_true, Bool.not_false, Int.reduceToNat, List.getElem?_cons_zero, List.getElem?_cons_succ, hy, hb1, hb2, hu1, ha2, he1, ha1, hd1, hw0, inA, inT, hdt, hdd, hdl] <;> with_reducible rfl))
        | ((first | apply awR hΓ | apply awG | apply awH mixedOK hΓ rfl (by kernel_rfl) | apply ovE rfl); (simp (disch := omega) only [go_sem, ↓reduceIte, dk, ↓lk, Int.reduceBEq, Int.reduceBNe, Bool.true_bne, Bool.false_bne, Bool.not_true, Bool.not_false, Int.reduceToNat, List.getElem?_cons_zero, List.getElem?_cons_succ, hy, hb1, hb2, hu1, ha2, he1, ha1, hd1, hw0, inA, inT, hdt, hdd, hdl] <;> with_reducible rfl); exact trivial)
        | rfl)
        have hln := congrArg (fun z => z.inn.length) hst
        dsimp only at hln
        have hln2 := congrArg (fun z => z.wds.length) hst
        dsimp only at hln2
        (try rw [List.length_take] at hln2)
        exact ⟨i + 1, ⟨by omega, by omega, by omega⟩, by omega, by rw [hst]; exact Weak.v (by (simp [ConvF, lookV, Conv, ints, inA, inT]; done)) (by (simp (disch := omega) only [TabSub, look, if_pos, if_neg, Obj.refsOK, refsOKs, AV.refsOK, decide_eq_true_eq, Bool.and_true, Bool.and_self, inA, inT] ) <;> ((repeat' apply And.intro) <;> first | exact True.intro | omega | (simp; done) | rfl))⟩
      · repeat (first
        | (apply axJ; (focus ((with_reducible constructor) <;> rfl)))
        | (apply awT mixedOK hΓ (by kernel_rfl); (simp (disch := omega) only [go_sem, ↓reduceIte, dk, ↓lk, Int.reduceBEq, Int.reduceBNe, Bool.true_bne, Bool.false_bne, Bool.not_true, Bool.not_false, Int.reduceToNat, List.getElem?_cons_zero, List.getElem?_cons_succ, hy, hb1, hb2, hu1, ha2, he1, ha1, hd1, hw0, inA, inT, hdt, hdd, hdl] <;> with_reducible rfl))
        | ((first | apply awR hΓ | apply awG | apply awH mixedOK hΓ rfl (by kernel_rfl) | apply ovE rfl); (simp (disch := omega) only [go_sem, ↓reduceIte, dk, ↓lk, Int.reduceBEq, Int.reduceBNe, Bool.true_bne, Bool.false_bne, Bool.not_true, Bool.not_false, Int.reduceToNat, List.getElem?_cons_zero, List.getElem?_cons_succ, hy, hb1, hb2, hu1, ha2, he1, ha1, hd1, hw0, inA, inT, hdt, hdd, hdl] <;> with_reducible rfl); exact trivial)
        | rfl)
        have hln := congrArg (fun z => z.inn.length) hst
        dsimp only at hln
        have hln2 := congrArg (fun z => z.wds.length) hst
        dsimp only at hln2
        (try rw [List.length_take] at hln2)
        exact ⟨i + 1, ⟨by omega, by omega, by omega⟩, by omega, by rw [hst]; exact Weak.v (by (simp [ConvF, lookV, Conv, ints, inA, inT]; done)) (by (simp (disch := omega) only [TabSub, look, if_pos, if_neg, Obj.refsOK, refsOKs, AV.refsOK, decide_eq_true_eq, Bool.and_true, Bool.and_self, inA, inT] ) <;> ((repeat' apply And.intro) <;> first | exact True.intro | omega | (simp; done) | rfl))⟩
    cases b2
    rotate_left
    · simp only [Bool.or_true, if_true] at hst
      cases d1
      · repeat (first
        | (apply axJ; (focus ((with_reducible constructor) <;> rfl)))
        | (apply awT mixedOK hΓ (by kernel_rfl); (simp (disch := omega) only [go_sem, ↓reduceIte, dk, ↓lk, Int.reduceBEq, Int.reduceBNe, Bool.true_bne, Bool.false_bne, Bool.not_true, Bool.not_false, Int.reduceToNat, List.getElem?_cons_zero, List.getElem?_cons_succ, hy, hb1, hb2, hu1, ha2, he1, ha1, hd1, hw0, inA, inT, hdt, hdd, hdl] <;> with_reducible rfl))
        | ((first | apply awR hΓ | apply awG | apply awH mixedOK hΓ rfl (by kernel_rfl) | apply ovE rfl); (simp (disch := omega) only [go_sem, ↓reduceIte, dk, ↓lk, Int.reduceBEq, Int.reduceBNe, Bool.true_bne, Bool.false_bne, Bool.not_true, Bool.not_false, Int.reduceToNat, List.getElem?_cons_zero, List.getElem?_cons_succ, hy, hb1, hb2, hu1, ha2, he1, ha1, hd1, hw0, inA, inT, hdt, hdd, hdl] <;> with_reducible rfl); exact trivial)
        | rfl)
        have hln := congrArg (fun z => z.inn.length) hst
        dsimp only at hln
        have hln2 := congrArg (fun z => z.wds.length) hst
        dsimp only at hln2
        (try rw [List.length_take] at hln2)
        exact ⟨i + 1, ⟨by omega, by omega, by omega⟩, by omega, by rw [hst]; exact Weak.v (by (simp [ConvF, lookV, Conv, ints, inA, inT]; done)) (by (simp (disch := omega) only [TabSub, look, if_pos, if_neg, Obj.refsOK, refsOKs, AV.refsOK, decide_eq_true_eq, Bool.and_true, Bool.and_self, inA, inT] ) <;> ((repeat' apply And.intro) <;> first | exact True.intro | omega | (simp; done) | rfl))⟩
      · repeat (first
        | (apply axJ; (focus ((with_reducible constructor) <;> rfl)))
        | (apply awT mixedOK hΓ (by kernel_rfl); (simp (disch := omega) only [go_sem, ↓reduceIte, dk, ↓lk, Int.reduceBEq, Int.reduceBNe, Bool.true_bne, Bool.false_bne, Bool.not_true, Bool.not_false, Int.reduceToNat, List.getElem?_cons_zero, List.getElem?_cons_succ, hy, hb1, hb2, hu1, ha2, he1, ha1, hd1, hw0, inA, inT, hdt, hdd, hdl] <;> with_reducible rfl))
        | ((first | apply awR hΓ | apply awG | apply awH mixedOK hΓ rfl (by kernel_rfl) | apply ovE rfl); (simp (disch := omega) only [go_sem, ↓reduceIte, dk, ↓lk, Int.reduceBEq, Int.reduceBNe, Bool.true_bne, Bool.false_bne, Bool.not_true, Bool.not_false, Int.reduceToNat, List.getElem?_cons_zero, List.getElem?_cons_succ, hy, hb1, hb2, hu1, ha2, he1, ha1, hd1, hw0, inA, inT, hdt, hdd, hdl] <;> with_reducible rfl); exact trivial)
        | rfl)
        have hln := congrArg (fun z => z.inn.length) hst
        dsimp only at hln
        have hln2 := congrArg (fun z => z.wds.length) hst
        dsimp only at hln2
        (try rw [List.length_take] at hln2)
        exact ⟨i + 1, ⟨by omega, by omega, by omega⟩, by omega, by rw [hst]; exact Weak.v (by (simp [ConvF, lookV, Conv, ints, inA, inT]; done)) (by (simp (disch := omega) only [TabSub, look, if_pos, if_neg, Obj.refsOK, refsOKs, AV.refsOK, decide_eq_true_eq, Bool.and_true, Bool.and_self, inA, inT] ) <;> ((repeat' apply And.intro) <;> first | exact True.intro | omega | (simp; done) | rfl))⟩
    simp only [Bool.or_self, Bool.false_eq_true, if_false] at hst
    cases u1
    rotate_left
    · simp only [if_true] at hst
      cases d1
      · repeat (first
        | (apply axJ; (focus ((with_reducible constructor) <;> rfl)))
        | (apply awT mixedOK hΓ (by kernel_rfl); (simp (disch := omega) only [go_sem, ↓reduceIte, dk, ↓lk, Int.reduceBEq, Int.reduceBNe, Bool.true_bne, Bool.false_bne, Bool.not_true, Bool.not_false, Int.reduceToNat, List.getElem?_cons_zero, List.getElem?_cons_succ, hy, hb1, hb2, hu1, ha2, he1, ha1, hd1, hw0, inA, inT, hdt, hdd, hdl] <;> with_reducible rfl))
        | ((first | apply awR hΓ | apply awG | apply awH mixedOK hΓ rfl (by kernel_rfl) | apply ovE rfl); (simp (disch := omega) only [go_sem, ↓reduceIte, dk, ↓lk, Int.reduceBEq, Int.reduceBNe, Bool.true_bne, Bool.false_bne, Bool.not_true, Bool.not_false, Int.reduceToNat, List.getElem?_cons_zero, List.getElem?_cons_succ, hy, hb1, hb2, hu1, ha2, he1, ha1, hd1, hw0, inA, inT, hdt, hdd, hdl] <;> with_reducible rfl); exact trivial)
        | rfl)
        have hln := congrArg (fun z => z.inn.length) hst
        dsimp only at hln
        have hln2 := congrArg (fun z => z.wds.length) hst
        dsimp only at hln2
        (try rw [List.length_take] at hln2)
        exact ⟨i + 1, ⟨by omega, by omega, by omega⟩, by omega, by rw [hst]; exact Weak.v (by (simp [ConvF, lookV, Conv, ints, inA, inT]; done)) (by (simp (disch := omega) only [TabSub, look, if_pos, if_neg, Obj.refsOK, refsOKs, AV.refsOK, decide_eq_true_eq, Bool.and_true, Bool.and_self, inA, inT] ) <;> ((repeat' apply And.intro) <;> first | exact True.intro | omega | (simp; done) | rfl))⟩
      · repeat (first
        | (apply axJ; (focus ((with_reducible constructor) <;> rfl)))
        | (apply awT mixedOK hΓ (by kernel_rfl); (simp (disch := omega) only [go_sem, ↓reduceIte, dk, ↓lk, Int.reduceBEq, Int.reduceBNe, Bool.true_bne, Bool.false_bne, Bool.not_true, Bool.not_false, Int.reduceToNat, List.getElem?_cons_zero, List.getElem?_cons_succ, hy, hb1, hb2, hu1, ha2, he1, ha1, hd1, hw0, inA, inT, hdt, hdd, hdl] <;> with_reducible rfl))
        | ((first | apply awR hΓ | apply awG | apply awH mixedOK hΓ rfl (by kernel_rfl) | apply ovE rfl); (simp (disch := omega) only [go_sem, ↓reduceIte, dk, ↓lk, Int.reduceBEq, Int.reduceBNe, Bool.true_bne, Bool.false_bne, Bool.not_true, Bool.not_false, Int.reduceToNat, List.getElem?_cons_zero, List.getElem?_cons_succ, hy, hb1, hb2, hu1, ha2, he1, ha1, hd1, hw0, inA, inT, hdt, hdd, hdl] <;> with_reducible rfl); exact trivial)
        | rfl)
        have hln := congrArg (fun z => z.inn.length) hst
        dsimp only at hln
        have hln2 := congrArg (fun z => z.wds.length) hst
        dsimp only at hln2
        (try rw [List.length_take] at hln2)
        exact ⟨i + 1, ⟨by omega, by omega, by omega⟩, by omega, by rw [hst]; exact Weak.v (by (simp [ConvF, lookV, Conv, ints, inA, inT]; done)) (by (simp (disch := omega) only [TabSub, look, if_pos, if_neg, Obj.refsOK, refsOKs, AV.refsOK, decide_eq_true_eq, Bool.and_true, Bool.and_self, inA, inT] ) <;> ((repeat' apply And.intro) <;> first | exact True.intro | omega | (simp; done) | rfl))⟩
    simp only [Bool.false_eq_true, if_false] at hst
    cases a1
    rotate_left
    · have hd0 : d1 = false := by
        rw [← hd1, eq_of_beq ha1]
        rfl
      subst hd0
      cases a2
      rotate_left
      · simp only [Bool.and_self, if_true] at hst
        repeat (first
          | (apply axJ; (focus ((with_reducible constructor) <;> rfl)))
          | (apply awT mixedOK hΓ (by kernel_rfl); (simp (disch := omega) only [go_sem, ↓reduceIte, dk, ↓lk, Int.reduceBEq, Int.reduceBNe, Bool.true_bne, Bool.false_bne, Bool.not_true, Bool.not_false, Int.reduceToNat, List.getElem?_cons_zero, List.getElem?_cons_succ, hy, hb1, hb2, hu1, ha2, he1, ha1, hd1, hw0, inA, inT, hdt, hdd, hdl] <;> with_reducible rfl))
          | ((first | apply awR hΓ | apply awG | apply awH mixedOK hΓ rfl (by kernel_rfl) | apply ovE rfl); (simp (disch := omega) only [go_sem, ↓reduceIte, dk, ↓lk, Int.reduceBEq, Int.reduceBNe, Bool.true_bne, Bool.false_bne, Bool.not_true, Bool.not_false, Int.reduceToNat, List.getElem?_cons_zero, List.getElem?_cons_succ, hy, hb1, hb2, hu1, ha2, he1, ha1, hd1, hw0, inA, inT, hdt, hdd, hdl] <;> with_reducible rfl); exact trivial)
          | rfl)
        have hln := congrArg (fun z => z.inn.length) hst
        dsimp only at hln
        have hln2 := congrArg (fun z => z.wds.length) hst
        dsimp only at hln2
        (try rw [List.length_take] at hln2)
        exact ⟨i + 1, ⟨by omega, by omega, by omega⟩, by omega, by rw [hst]; exact Weak.v (by (simp [ConvF, lookV, Conv, ints, inA, inT]; done)) (by (simp (disch := omega) only [TabSub, look, if_pos, if_neg, Obj.refsOK, refsOKs, AV.refsOK, decide_eq_true_eq, Bool.and_true, Bool.and_self, inA, inT] ) <;> ((repeat' apply And.intro) <;> first | exact True.intro | omega | (simp; done) | rfl))⟩
      · simp only [Bool.and_false, Bool.false_and, Bool.false_eq_true, if_false] at hst
        repeat (first
          | (apply axJ; (focus ((with_reducible constructor) <;> rfl)))
          | (apply awT mixedOK hΓ (by kernel_rfl); (simp (disch := omega) only [go_sem, ↓reduceIte, dk, ↓lk, Int.reduceBEq, Int.reduceBNe, Bool.true_bne, Bool.false_bne, Bool.not_true, Bool.not_false, Int.reduceToNat, List.getElem?_cons_zero, List.getElem?_cons_succ, hy, hb1, hb2, hu1, ha2, he1, ha1, hd1, hw0, inA, inT, hdt, hdd, hdl] <;> with_reducible rfl))
          | ((first | apply awR hΓ | apply awG | apply awH mixedOK hΓ rfl (by kernel_rfl) | apply ovE rfl); (simp (disch := omega) only [go_sem, ↓reduceIte, dk, ↓lk, Int.reduceBEq, Int.reduceBNe, Bool.true_bne, Bool.false_bne, Bool.not_true, Bool.not_false, Int.reduceToNat, List.getElem?_cons_zero, List.getElem?_cons_succ, hy, hb1, hb2, hu1, ha2, he1, ha1, hd1, hw0, inA, inT, hdt, hdd, hdl] <;> with_reducible rfl); exact trivial)
          | rfl)
        have hln := congrArg (fun z => z.inn.length) hst
        dsimp only at hln
        rw [List.length_append] at hln
        have hln2 := congrArg (fun z => z.wds.length) hst
        dsimp only at hln2
        (try rw [List.length_take] at hln2)
        exact ⟨i + 1, ⟨by omega, by omega, by omega⟩, by omega, by rw [hst]; exact Weak.v (by (simp [ConvF, lookV, Conv, ints, inA, inT, List.map_append, List.length_append]; done)) (by (simp (disch := omega) only [TabSub, look, if_pos, if_neg, Obj.refsOK, refsOKs, AV.refsOK, decide_eq_true_eq, Bool.and_true, Bool.and_self, inA, inT, List.map_append, List.length_append] ) <;> ((repeat' apply And.intro) <;> first | exact True.intro | omega | (simp; done) | rfl))⟩
    simp only [Bool.false_and, Bool.false_eq_true, if_false] at hst
    cases d1
    · simp only [Bool.false_and, Bool.false_eq_true, if_false] at hst
      repeat (first
        | (apply axJ; (focus ((with_reducible constructor) <;> rfl)))
        | (apply awT mixedOK hΓ (by kernel_rfl); (simp (disch := omega) only [go_sem, ↓reduceIte, dk, ↓lk, Int.reduceBEq, Int.reduceBNe, Bool.true_bne, Bool.false_bne, Bool.not_true, Bool.not_false, Int.reduceToNat, List.getElem?_cons_zero, List.getElem?_cons_succ, hy, hb1, hb2, hu1, ha2, he1, ha1, hd1, hw0, inA, inT, hdt, hdd, hdl] <;> with_reducible rfl))
        | ((first | apply awR hΓ | apply awG | apply awH mixedOK hΓ rfl (by kernel_rfl) | apply ovE rfl); (simp (disch := omega) only [go_sem, ↓reduceIte, dk, ↓lk, Int.reduceBEq, Int.reduceBNe, Bool.true_bne, Bool.false_bne, Bool.not_true, Bool.not_false, Int.reduceToNat, List.getElem?_cons_zero, List.getElem?_cons_succ, hy, hb1, hb2, hu1, ha2, he1, ha1, hd1, hw0, inA, inT, hdt, hdd, hdl] <;> with_reducible rfl); exact trivial)
        | rfl)
      have hln := congrArg (fun z => z.inn.length) hst
      dsimp only at hln
      rw [List.length_append] at hln
      have hln2 := congrArg (fun z => z.wds.length) hst
      dsimp only at hln2
      (try rw [List.length_take] at hln2)
      exact ⟨i + 1, ⟨by omega, by omega, by omega⟩, by omega, by rw [hst]; exact Weak.v (by (simp [ConvF, lookV, Conv, ints, inA, inT, List.map_append, List.length_append]; done)) (by (simp (disch := omega) only [TabSub, look, if_pos, if_neg, Obj.refsOK, refsOKs, AV.refsOK, decide_eq_true_eq, Bool.and_true, Bool.and_self, inA, inT, List.map_append, List.length_append] ) <;> ((repeat' apply And.intro) <;> first | exact True.intro | omega | (simp; done) | rfl))⟩
    cases e1
    · exfalso
      rcases h4 rfl with h | h | h
      · exact absurd (hn1 h) (by decide)
      · exact absurd (hn2 h) (by decide)
      · exact absurd (hn3 h) (by decide)
    · simp only [Bool.and_self, if_true] at hst
      repeat (first
        | (apply axJ; (focus ((with_reducible constructor) <;> rfl)))
        | (apply awT mixedOK hΓ (by kernel_rfl); (simp (disch := omega) only [go_sem, ↓reduceIte, dk, ↓lk, Int.reduceBEq, Int.reduceBNe, Bool.true_bne, Bool.false_bne, Bool.not_true, Bool.not_false, Int.reduceToNat, List.getElem?_cons_zero, List.getElem?_cons_succ, hy, hb1, hb2, hu1, ha2, he1, ha1, hd1, hw0, inA, inT, hdt, hdd, hdl] <;> with_reducible rfl))
        | ((first | apply awR hΓ | apply awG | apply awH mixedOK hΓ rfl (by kernel_rfl) | apply ovE rfl); (simp (disch := omega) only [go_sem, ↓reduceIte, dk, ↓lk, Int.reduceBEq, Int.reduceBNe, Bool.true_bne, Bool.false_bne, Bool.not_true, Bool.not_false, Int.reduceToNat, List.getElem?_cons_zero, List.getElem?_cons_succ, hy, hb1, hb2, hu1, ha2, he1, ha1, hd1, hw0, inA, inT, hdt, hdd, hdl] <;> with_reducible rfl); exact trivial)
        | rfl)
      (apply awp_lane3 (nst := false) (nst' := false) [false, false, false, false, false, false, false, true] mixedOK hΓ (n1 := 8) (by kernel_rfl) (by kernel_rfl); (focus (dsimp only [List.take_succ_cons, List.take_zero, Array.toList]; (repeat (first | (apply lane3_loud; (focus rfl); (focus rfl); (simp (disch := omega) only [go_sem, ↓reduceIte, dk, ↓lk, Int.reduceBEq, Int.reduceBNe, Bool.true_bne, Bool.false_bne, Bool.not_true, Bool.not_false, Int.reduceToNat, List.getElem?_cons_zero, List.getElem?_cons_succ, hy, hb1, hb2, hu1, ha2, he1, ha1, hd1, hw0, inA, inT, hdt, hdd, hdl, look_upd] <;> with_reducible rfl); (focus (first | (simp (disch := omega) only [go_sem, ↓reduceIte, dk, ↓lk, Int.reduceBEq, Int.reduceBNe, Bool.true_bne, Bool.false_bne, Bool.not_true, Bool.not_false, Int.reduceToNat, List.getElem?_cons_zero, List.getElem?_cons_succ, hy, hb1, hb2, hu1, ha2, he1, ha1, hd1, hw0, inA, inT, hdt, hdd, hdl, look_upd]; done) | (simp (disch := omega) only [go_sem, ↓reduceIte, dk, ↓lk, Int.reduceBEq, Int.reduceBNe, Bool.true_bne, Bool.false_bne, Bool.not_true, Bool.not_false, Int.reduceToNat, List.getElem?_cons_zero, List.getElem?_cons_succ, hy, hb1, hb2, hu1, ha2, he1, ha1, hd1, hw0, inA, inT, hdt, hdd, hdl, look_upd]; omega)))) | (apply lane3_quiet; (simp (disch := omega) only [go_sem, ↓reduceIte, dk, ↓lk, Int.reduceBEq, Int.reduceBNe, Bool.true_bne, Bool.false_bne, Bool.not_true, Bool.not_false, Int.reduceToNat, List.getElem?_cons_zero, List.getElem?_cons_succ, hy, hb1, hb2, hu1, ha2, he1, ha1, hd1, hw0, inA, inT, hdt, hdd, hdl, look_upd] <;> with_reducible rfl)))); exact lane3_nil)); (focus ((repeat' (first | exact True.intro | refine And.intro ?_ ?_)); all_goals (first | (left; decide) | (left; rfl) | (right; simp (disch := omega) only [go_sem, ↓reduceIte, dk, ↓lk, Int.reduceBEq, Int.reduceBNe, Bool.true_bne, Bool.false_bne, Bool.not_true, Bool.not_false, Int.reduceToNat, List.getElem?_cons_zero, List.getElem?_cons_succ, hy, hb1, hb2, hu1, ha2, he1, ha1, hd1, hw0, inA, inT, hdt, hdd, hdl, look_upd]; try with_reducible rfl)))); (simp (disch := omega) only [go_sem, ↓reduceIte, dk, ↓lk, Int.reduceBEq, Int.reduceBNe, Bool.true_bne, Bool.false_bne, Bool.not_true, Bool.not_false, Int.reduceToNat, List.getElem?_cons_zero, List.getElem?_cons_succ, hy, hb1, hb2, hu1, ha2, he1, ha1, hd1, hw0, inA, inT, hdt, hdd, hdl, look_upd] <;> with_reducible rfl))
      repeat (first
        | (apply axJ; (focus ((with_reducible constructor) <;> rfl)))
        | (apply awT mixedOK hΓ (by kernel_rfl); (simp (disch := omega) only [go_sem, ↓reduceIte, dk, ↓lk, Int.reduceBEq, Int.reduceBNe, Bool.true_bne, Bool.false_bne, Bool.not_true, Bool.not_false, Int.reduceToNat, List.getElem?_cons_zero, List.getElem?_cons_succ, hy, hb1, hb2, hu1, ha2, he1, ha1, hd1, hw0, inA, inT, hdt, hdd, hdl] <;> with_reducible rfl))
        | ((first | apply awR hΓ | apply awG | apply awH mixedOK hΓ rfl (by kernel_rfl) | apply ovE rfl); (simp (disch := omega) only [go_sem, ↓reduceIte, dk, ↓lk, Int.reduceBEq, Int.reduceBNe, Bool.true_bne, Bool.false_bne, Bool.not_true, Bool.not_false, Int.reduceToNat, List.getElem?_cons_zero, List.getElem?_cons_succ, hy, hb1, hb2, hu1, ha2, he1, ha1, hd1, hw0, inA, inT, hdt, hdd, hdl] <;> with_reducible rfl); exact trivial)
        | rfl)
      have hln := congrArg (fun z => z.inn.length) hst
      dsimp only at hln
      rw [List.length_drop] at hln
      have hln2 := congrArg (fun z => z.wds.length) hst
      dsimp only at hln2
      (try rw [List.length_take] at hln2)
      exact ⟨i + 1, ⟨by omega, by omega, by omega⟩, by omega, by rw [hst]; exact Weak.v (by (simp [ConvF, lookV, Conv, ints, inA, inT]; done)) (by (simp (disch := omega) only [TabSub, look, if_pos, if_neg, Obj.refsOK, refsOKs, AV.refsOK, decide_eq_true_eq, Bool.and_true, Bool.and_self, inA, inT] ) <;> ((repeat' apply And.intro) <;> first | exact True.intro | omega | (simp; done) | rfl))⟩
  · have hi3 : i = gs.length := by omega
    subst hi3
    rw [List.take_length] at hb hb' ⊢
    have hkp := stF_keep kind gs ⟨line, kind, [], [], [], []⟩
    simp only [Bool.false_eq_true, if_false]
    generalize gs.foldl (stF kind) ⟨line, kind, [], [], [], []⟩ = x at *
    obtain ⟨xl, xk, xi, xu, xw, xo⟩ := x
    obtain ⟨hk1, hk2⟩ := hkp
    dsimp only at hb hb' hk1 hk2 ⊢
    subst hk1
    subst hk2
    have hconv : Weak k.base ((frame 119 [(4, .ptr 0 0), (6, .ptr 3 0), (8, .ptr 14 0), (10, .ptr 32 0), (41, .data (.list (gs.map eGp))), (42, .data (i64 gs.length)), (43, .data (i64 gs.length))])) ⟨(0, .box [.data (.int .i64 0), .data (.int .i64 0), .nils, .nils, .nils, .data (.str [])]) :: (3, .box [.data (.int .i64 0), .data (.int .i64 0), .nils, .nils, .nils, .data (.str [])]) :: (14, .box [.data (i64 xk)]) :: (32, .box [.data (.int .i64 xl), .data (.int .i64 xk), inA d1 37 xi, .data (.list (xu.map .str)), .data (.list (xw.map .str)), .data (.str xo)]) :: inT d1 37 xi, 38⟩ ((frame 119 [(4, .ptr 0 0), (6, .ptr 3 0), (10, .ptr 32 0), (42, .data (i64 gs.length)), (43, .data (i64 gs.length))])) ⟨[(0, .box [.data (.int .i64 0), .data (.int .i64 0), .nils, .nils, .nils, .data (.str [])]), (3, .box [.data (.int .i64 0), .data (.int .i64 0), .nils, .nils, .nils, .data (.str [])]), (32, .box [.data (.int .i64 xl), .data (.int .i64 xk), .data (.list (xi.map .str)), .data (.list (xu.map .str)), .data (.list (xw.map .str)), .data (.str xo)])], 38⟩ := by
      cases d1
      · refine (Weak.freeze (o := 37) rfl).trans ?_
        refine (Weak.boxConv (o := 32) (cs' := [.data (.int .i64 xl), .data (.int .i64 xk), .data (.list (xi.map .str)), .data (.list (xu.map .str)), .data (.list (xw.map .str)), .data (.str xo)]) rfl (by (repeat' (first | exact True.intro | apply And.intro | exact rfl | exact Or.inl rfl | exact Or.inr (Or.inl ⟨rfl, rfl⟩) | exact Or.inr (Or.inr ⟨_, _, rfl, rfl, by simp⟩))); done)).trans ?_
        exact Weak.v (by (simp [ConvF, lookV, Conv, ints, upd, Heap.set, inA, inT]; done)) (by (simp (disch := omega) only [TabSub, look, if_pos, if_neg, Obj.refsOK, refsOKs, AV.refsOK, decide_eq_true_eq, Bool.and_true, Bool.and_self, upd, Heap.set, inA, inT] ) <;> ((repeat' apply And.intro) <;> first | exact True.intro | omega | (simp; done) | rfl))
      · exact Weak.v (by (simp [ConvF, lookV, Conv, ints, inA, inT]; done)) (by (simp (disch := omega) only [TabSub, look, if_pos, if_neg, Obj.refsOK, refsOKs, AV.refsOK, decide_eq_true_eq, Bool.and_true, Bool.and_self, inA, inT] ) <;> ((repeat' apply And.intro) <;> first | exact True.intro | omega | (simp; done) | rfl))
    refine awp_weak hconv ?_
    clear hconv
    repeat (first
      | (apply axJ; (focus ((with_reducible constructor) <;> rfl)))
      | (apply awT mixedOK hΓ (by kernel_rfl); (simp (disch := omega) only [go_sem, ↓reduceIte, dk, ↓lk] <;> with_reducible rfl))
      | ((first | apply awR hΓ | apply awG | apply awH mixedOK hΓ rfl (by kernel_rfl) | apply ovE rfl); (simp (disch := omega) only [go_sem, ↓reduceIte, dk, ↓lk] <;> with_reducible rfl); exact trivial)
      | rfl)
    refine awp_loop_at (X := Nat) (fun i => (frame 119 [(4, .ptr 0 0), (6, .ptr 3 0), (10, .ptr 32 0), (103, .data (.list (xw.map .str))), (104, .data (i64 xw.length)), (105, .data (i64 i))])) (fun _ => [(0, .box [.data (.int .i64 0), .data (.int .i64 0), .nils, .nils, .nils, .data (.str [])]), (3, .box [.data (.int .i64 0), .data (.int .i64 0), .nils, .nils, .nils, .data (.str [])]), (32, .box [.data (.int .i64 xl), .data (.int .i64 xk), .data (.list (xi.map .str)), .data (.list (xu.map .str)), .data (.list (xw.map .str)), .data (.str xo)])]) 38
      (fun i => i ≤ xw.length ∧ dupB [] xw = dupB (xw.take i) (xw.drop i)) (fun i => xw.length - i) 0 ⟨Nat.zero_le _, rfl⟩ (Weak.w) ?_
    rintro i ⟨h1, hdu⟩
    by_cases hi2 : i < xw.length
    · rw [dup_next hi2] at hdu
      have e5 := g_sCont_eq (l := xw.take i) (s := xw[i]) (by rw [List.length_take]; omega)
      rw [List.map_take] at e5
      generalize hy : xw[i] = y at *
      generalize hasB (xw.take i) y = hb at *
      cases hb
      · repeat (first
        | (apply axJ; (focus ((with_reducible constructor) <;> rfl)))
        | (apply awT mixedOK hΓ (by kernel_rfl); (simp (disch := omega) only [go_sem, ↓reduceIte, dk, ↓lk, hy, e5, Nat.sub_zero, List.drop_zero] <;> with_reducible rfl))
        | ((first | apply awR hΓ | apply awG | apply awH mixedOK hΓ rfl (by kernel_rfl) | apply ovE rfl); (simp (disch := omega) only [go_sem, ↓reduceIte, dk, ↓lk, hy, e5, Nat.sub_zero, List.drop_zero] <;> with_reducible rfl); exact trivial)
        | rfl)
        exact ⟨i + 1, ⟨by omega, by rw [hdu]; rfl⟩, by omega, Weak.w⟩
      · rw [hdu]
        repeat (first
          | (apply axJ; (focus ((with_reducible constructor) <;> rfl)))
          | (apply awT mixedOK hΓ (by kernel_rfl); (simp (disch := omega) only [go_sem, ↓reduceIte, dk, ↓lk, ↓ty_build34, hy, e5, Nat.sub_zero, List.drop_zero] <;> with_reducible rfl))
          | ((first | apply awR hΓ | apply awG | apply awH mixedOK hΓ rfl (by kernel_rfl) | apply ovE rfl); (simp (disch := omega) only [go_sem, ↓reduceIte, dk, ↓lk, ↓ty_build34, hy, e5, Nat.sub_zero, List.drop_zero] <;> with_reducible rfl); exact trivial)
          | rfl)
        try rfl
    · have hi3 : i = xw.length := by omega
      subst hi3
      rw [List.drop_length] at hdu
      rw [hdu]
      repeat (first
        | (apply axJ; (focus ((with_reducible constructor) <;> rfl)))
        | (apply awT mixedOK hΓ (by kernel_rfl); (simp (disch := omega) only [go_sem, ↓reduceIte, dk, ↓lk] <;> with_reducible rfl))
        | ((first | apply awR hΓ | apply awG | apply awH mixedOK hΓ rfl (by kernel_rfl) | apply ovE rfl); (simp (disch := omega) only [go_sem, ↓reduceIte, dk, ↓lk] <;> with_reducible rfl); exact trivial)
        | rfl)
      try rfl
end Go.Ab
