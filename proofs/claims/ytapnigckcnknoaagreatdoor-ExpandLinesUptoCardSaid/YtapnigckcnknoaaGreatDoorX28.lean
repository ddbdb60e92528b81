/-
  One text of the proof (own work): contracts of functions of the program, by the abstract machine.
-/
import Derived.Test.YtapnigckcnknoaaGreatDoorX12
import Derived.Test.YtapnigckcnknoaaGreatDoorX27
import Derived.Test.YtapnigckcnknoaaGreatDoorX22
set_option linter.unusedVariables false
set_option linter.unusedSimpArgs false
namespace Go.Ab
open Go Go.RowKit Go.Proofs
set_option maxRecDepth 10000
set_option maxHeartbeats 40000000
theorem body_len (fs : List Fl) (b : Sp) : (bodyB fs b).1.length ≤ 256 := by
  unfold bodyB
  split
  · split
    · unfold bodyR
      split
      · simp
      · unfold bodyT
        split
        · split
          · simp
          · rename_i h
            simp only [decide_eq_true_eq] at h
            dsimp only
            omega
        · simp
    · simp
  · simp
def eLR (p : (List Tk × List Sp) × Int) : D := .tup [.list (p.1.1.map eTk), .list (p.1.2.map eSp), i64 p.2]
def w0 (l : List Tk) : List Wd := l.map fun t => (t, [])
theorem lineG_eq (fs : List Fl) (us : List Mc) (l : List Tk) : lineG fs us l = if decide ((l.length : Int) > 256) then (([], []), 10) else if l.all (fun t => validB t.1 t.2) then (((loopG fs us 256 (w0 l) []).1.1.map (·.1), setG (loopG fs us 256 (w0 l) []).1.2), (loopG fs us 256 (w0 l) []).2) else (([], []), 1) := by
  unfold lineG printE w0
  split
  · rfl
  · split <;> rfl
theorem setG_nil : setG [] = [] := rfl
def cG0 (l : List Tk) : List AV := l.flatMap fun t => [.data (i64 t.1), .data (.str t.2), .nils]
theorem conv_w0 {H : Heap} : ∀ l : List Tk, ConvL H (cG0 l) ((flat ((w0 l).map eWr)).map .data)
  | [] => trivial
  | t :: l => ⟨rfl, rfl, .inr (.inl ⟨rfl, rfl⟩), conv_w0 l⟩
theorem wr_cells {l : List Wd} : (∀ d ∈ l.map eWr, d.cells.length = 3) ∧ ∀ d ∈ flat (l.map eWr), d.one = true := by
  constructor
  · intro d hd
    obtain ⟨w, _, rfl⟩ := List.mem_map.1 hd
    rfl
  · intro d hd
    unfold flat at hd
    obtain ⟨x, hx, hd⟩ := List.mem_flatMap.1 hd
    obtain ⟨w, _, rfl⟩ := List.mem_map.1 hx
    simp only [eWr, D.cells, List.mem_cons, List.not_mem_nil, or_false] at hd
    rcases hd with rfl | rfl | rfl <;> rfl
theorem cG0_refs (n : Nat) : ∀ l : List Tk, refsOKs n (cG0 l) = true
  | [] => rfl
  | t :: l => by
    show refsOKs n ([AV.data (i64 t.1), .data (.str t.2), .nils] ++ cG0 l) = true
    simp only [List.cons_append, List.nil_append, refsOKs, AV.refsOK, cG0_refs n l, Bool.and_self]
theorem cG0_take {l : List Tk} {i : Nat} (hi : i < l.length) : cG0 (l.take (i + 1)) = cG0 (l.take i) ++ [.data (i64 l[i].1), .data (.str l[i].2), .nils] := by
  unfold cG0
  rw [List.take_add_one, List.getElem?_eq_getElem hi, List.flatMap_append]
  simp
noncomputable def g_lineR7 : List D → Option D := encSpec (fun x : (List Fl) × (List Mc) × (List Tk) => [.list (x.1.map eFl), eU x.2.1, .list (x.2.2.map eTk)]) (fun x : (List Fl) × (List Mc) × (List Tk) => ((x.1.length ≤ 1099511627776 ∧ ∀ f ∈ x.1, f.2.length ≤ 1000000000) ∧ (x.2.1.length ≤ 1000000 ∧ ∀ m ∈ x.2.1, m.params.length ≤ 1000000)) ∧ (x.2.2.length ≤ 1099511627776 ∧ ∀ t ∈ x.2.2, t.2.length ≤ 1099511627776)) (fun x : (List Fl) × (List Mc) × (List Tk) => eLR (lineG x.1 x.2.1 x.2.2))
theorem g_lineR7_eq {fs : List Fl} {us : List Mc} {l : List Tk} (hd : ((fs.length ≤ 1099511627776 ∧ ∀ f ∈ fs, f.2.length ≤ 1000000000) ∧ (us.length ≤ 1000000 ∧ ∀ m ∈ us, m.params.length ≤ 1000000)) ∧ (l.length ≤ 1099511627776 ∧ ∀ t ∈ l, t.2.length ≤ 1099511627776)) : g_lineR7 [.list (fs.map eFl), eU us, .list (l.map eTk)] = some (eLR (lineG fs us l)) := encSpec_eq (x := (fs, us, l)) hd fun y hy => by
    obtain ⟨y0, y1, y2⟩ := y; simp only [List.cons.injEq, and_true, true_and, D.str.injEq, D.int.injEq, D.list.injEq, D.bool.injEq, D.agg.injEq, D.clo.injEq, Int.natCast_inj, inj_ie, D.ref.injEq, eU_e, eWr_e, eWr_ie, eWrs_ie, eTk_ie, eTk_e, eFl_ie, eSp_ie, eSp_e, eMc_e, eMc_ie] at hy
    (try obtain ⟨rfl, rfl, rfl⟩ := hy)
    (try subst_vars)
    rfl
theorem f_lineR7_ok : PureOK Tryz.prog 18 false g_lineR7 := by
  have hΓ := Γp f_allVR_ok (Γp f_meantR_ok (Γp f_argsR7_ok (Γp f_bodyRR_ok (Γp f_addSpR_ok (Γp f_bothR_ok (Γp f_replR7_ok (Γn)))))))
  refine pure_enc (n := 152) (rs := [.tmp 6, .tmp 7, .tmp 8]) Tryz.func18 (by kernel_rfl) rfl (by kernel_rfl) (by kernel_rfl) ?_
  rintro ⟨fs, us, l⟩ hd
  (try dsimp only at hd ⊢)
  refine ⟨fun h => (by cases h), fun k hz0 => ?_⟩
  obtain ⟨⟨⟨d1, d2⟩, d3, d4⟩, d5, d6⟩ := hd
  rw [lineG_eq, eU_eq]
  rw [start_frame (by simp)]; simp only [enumV, go_sem, emptyH]
  cases k1 : decide ((l.length : Int) > 256)
  case true =>
    simp only [if_true]
    repeat (first
      | (apply axJ; (focus ((with_reducible constructor) <;> rfl)))
      | (apply awT mixedOK hΓ (by kernel_rfl); (simp (disch := omega) only [go_sem, ↓reduceIte, dk, ↓lk, Int.reduceBEq, Int.reduceBNe, Bool.true_bne, Bool.false_bne, Bool.not_true, Bool.not_false, k1] <;> with_reducible rfl))
      | ((first | apply awR hΓ | apply awG | apply awH mixedOK hΓ rfl (by kernel_rfl) | apply ovE rfl); (simp (disch := omega) only [go_sem, ↓reduceIte, dk, ↓lk, Int.reduceBEq, Int.reduceBNe, Bool.true_bne, Bool.false_bne, Bool.not_true, Bool.not_false, k1] <;> with_reducible rfl); exact trivial)
      | rfl)
    try rfl
  simp only [Bool.false_eq_true, if_false]
  have e1 := g_allVR_eq (l := l) ⟨d5, d6⟩
  have k1' := of_decide_eq_false k1
  have hv : allV l = l.all (fun t => validB t.1 t.2) := by
    unfold allV
    rw [decide_eq_true (show (l.length : Int) ≤ 256 by omega), Bool.and_true]
  rw [hv] at e1
  cases k2 : l.all (fun t => validB t.1 t.2)
  case false =>
    rw [k2] at e1
    simp only [Bool.false_eq_true, if_false]
    repeat (first
      | (apply axJ; (focus ((with_reducible constructor) <;> rfl)))
      | (apply awT mixedOK hΓ (by kernel_rfl); (simp (disch := omega) only [go_sem, ↓reduceIte, dk, ↓lk, Int.reduceBEq, Int.reduceBNe, Bool.true_bne, Bool.false_bne, Bool.not_true, Bool.not_false, k1, e1] <;> with_reducible rfl))
      | ((first | apply awR hΓ | apply awG | apply awH mixedOK hΓ rfl (by kernel_rfl) | apply ovE rfl); (simp (disch := omega) only [go_sem, ↓reduceIte, dk, ↓lk, Int.reduceBEq, Int.reduceBNe, Bool.true_bne, Bool.false_bne, Bool.not_true, Bool.not_false, k1, e1] <;> with_reducible rfl); exact trivial)
      | rfl)
    try rfl
  rw [k2] at e1
  simp only [if_true]
  clear hv
  repeat (first
    | (apply axJ; (focus ((with_reducible constructor) <;> rfl)))
    | (apply awT mixedOK hΓ (by kernel_rfl); (simp (disch := omega) only [go_sem, ↓reduceIte, dk, ↓lk, Int.reduceBEq, Int.reduceBNe, Bool.true_bne, Bool.false_bne, Bool.not_true, Bool.not_false, k1, e1] <;> with_reducible rfl))
    | ((first | apply awR hΓ | apply awG | apply awH mixedOK hΓ rfl (by kernel_rfl) | apply ovE rfl); (simp (disch := omega) only [go_sem, ↓reduceIte, dk, ↓lk, Int.reduceBEq, Int.reduceBNe, Bool.true_bne, Bool.false_bne, Bool.not_true, Bool.not_false, k1, e1] <;> with_reducible rfl); exact trivial)
    | rfl)
  refine awp_weak (Weak.nilarrF (i := 9) 87 (sz := 3) (by omega) (by omega) rfl) ?_
  refine awp_loop_at (X := Nat) (fun i => (frame 152 [(0, .data (.list (fs.map eFl))), (4, .ptr 0 0), (9, .row 14 i), (31, .data (.list (l.map eTk))), (32, .data (i64 l.length)), (33, .data (i64 i))])) (fun i => [(0, .box [.data (.str []), .data (.list []), .data (.list (us.map eMc)), .data (.list []), .data (.list []), .data (.list [])]), (14, .arr 87 3 i (cG0 (l.take i)))]) 15
    (fun i => i ≤ l.length) (fun i => l.length - i) 0 (Nat.zero_le _) (Weak.v (by (simp [ConvF, lookV, Conv, ints, upd, cG0]; done)) (by (simp (disch := omega) only [TabSub, look, if_pos, if_neg, Obj.refsOK, refsOKs, AV.refsOK, decide_eq_true_eq, Bool.and_true, Bool.and_self, upd, cG0] ) <;> ((repeat' apply And.intro) <;> first | exact True.intro | omega | (simp; done) | rfl))) ?_
  rintro i hi
  (try dsimp only at hi ⊢)
  by_cases hi2 : i < l.length
  · have hct := cG0_take hi2
    have hrf := cG0_refs 15 (l.take (i + 1))
    rw [hct] at hrf
    generalize cG0 (l.take i) = C at *
    generalize hy : l[i] = y at *
    obtain ⟨y1, y2⟩ := y
    repeat (first
      | (apply axJ; (focus ((with_reducible constructor) <;> rfl)))
      | (apply awT mixedOK hΓ (by kernel_rfl); (simp (disch := omega) only [go_sem, ↓reduceIte, dk, ↓lk, Int.reduceBEq, Int.reduceBNe, Bool.true_bne, Bool.false_bne, Bool.not_true, Bool.not_false, ↓ty_build87, hy, zeroLoose, partsLoose, arrRep] <;> with_reducible rfl))
      | ((first | apply awN hΓ | apply awG | apply awH mixedOK hΓ rfl (by kernel_rfl) | apply ovE rfl); (simp (disch := omega) only [go_sem, ↓reduceIte, dk, ↓lk, Int.reduceBEq, Int.reduceBNe, Bool.true_bne, Bool.false_bne, Bool.not_true, Bool.not_false, ↓ty_build87, hy, zeroLoose, partsLoose, arrRep] <;> with_reducible rfl); exact trivial)
      | rfl)
    refine ⟨i + 1, by omega, by omega, ?_⟩
    rw [hct]
    exact Weak.v (by (simp [ConvF, lookV, Conv, ints, hrf]; done)) (by (simp (disch := omega) only [TabSub, look, if_pos, if_neg, Obj.refsOK, refsOKs, AV.refsOK, decide_eq_true_eq, Bool.and_true, Bool.and_self, hrf] ) <;> ((repeat' apply And.intro) <;> first | exact True.intro | omega | (simp; done) | rfl))
  have hi3 : i = l.length := by omega
  subst hi3
  rw [List.take_length]
  repeat (first
    | (apply axJ; (focus ((with_reducible constructor) <;> rfl)))
    | (apply awT mixedOK hΓ (by kernel_rfl); (simp (disch := omega) only [go_sem, ↓reduceIte, dk, ↓lk, Int.reduceBEq, Int.reduceBNe, Bool.true_bne, Bool.false_bne, Bool.not_true, Bool.not_false] <;> with_reducible rfl))
    | ((first | apply awR hΓ | apply awG | apply awH mixedOK hΓ rfl (by kernel_rfl) | apply ovE rfl); (simp (disch := omega) only [go_sem, ↓reduceIte, dk, ↓lk, Int.reduceBEq, Int.reduceBNe, Bool.true_bne, Bool.false_bne, Bool.not_true, Bool.not_false] <;> with_reducible rfl); exact trivial)
    | rfl)
  refine awp_weak (Weak.trans (Weak.arrRow (o := 14) (l := (w0 l).map eWr) rfl (conv_w0 l) (by simp [w0]) wr_cells.1 wr_cells.2) (Weak.trans (Weak.freeze (o := 14) rfl) (show Weak _ _ _ ((frame 152 [(0, .data (.list (fs.map eFl))), (4, .ptr 0 0), (9, .data (.list ((w0 l).map eWr))), (12, .data (.list (([] : List Sp).map eSp))), (13, .data (i64 ((0 : Nat) : Int))), (14, .data (i64 ((0 : Nat) : Int)))])) ⟨[(0, .box [.data (.str []), .data (.list []), .data (.list (us.map eMc)), .data (.list []), .data (.list []), .data (.list [])])], 19⟩ from Weak.v (by (simp [ConvF, lookV, Conv, ints, upd, Heap.set, Heap.get, look, w0, List.length_map]; done)) (by (simp (disch := omega) only [TabSub, look, if_pos, if_neg, Obj.refsOK, refsOKs, AV.refsOK, decide_eq_true_eq, Bool.and_true, Bool.and_self, upd, Heap.set, Heap.get, look, w0, List.length_map] ) <;> ((repeat' apply And.intro) <;> first | exact True.intro | omega | (simp; done) | rfl))))) ?_
  refine awp_loop_at (X := List Wd × List Sp × Nat × Nat) (fun y => (frame 152 [(0, .data (.list (fs.map eFl))), (4, .ptr 0 0), (9, .data (.list (y.1.map eWr))), (12, .data (.list ((setG y.2.1).map eSp))), (13, .data (i64 y.2.2.1)), (14, .data (i64 y.2.2.2))])) (fun _ => [(0, .box [.data (.str []), .data (.list []), .data (.list (us.map eMc)), .data (.list []), .data (.list []), .data (.list [])])]) 19
    (fun y => loopG fs us 256 (w0 l) [] = loopG fs us (256 - y.2.2.1) y.1 y.2.1 ∧ (y.2.2.1 ≤ 256 ∧ y.2.2.2 ≤ y.1.length) ∧ (y.1.length ≤ 256 ∧ y.2.1.length ≤ y.2.2.1) ∧ HidAll us y.1 ∧ ∀ w ∈ y.1.take y.2.2.2, meantB us w = none) (fun y => (256 - y.2.2.1) * 300 + (y.1.length - y.2.2.2)) (w0 l, [], 0, 0)
    ⟨rfl, ⟨Nat.zero_le _, Nat.zero_le _⟩, ⟨by simp [w0]; omega, Nat.zero_le _⟩, fun w hw => (by obtain ⟨t, _, rfl⟩ := List.mem_map.1 hw; exact ⟨by simp, fun s hs => by cases hs⟩), fun w hw => by simp at hw⟩ (Weak.v (by (simp [ConvF, lookV, Conv, ints, setG_nil]; done)) (by (simp (disch := omega) only [TabSub, look, if_pos, if_neg, Obj.refsOK, refsOKs, AV.refsOK, decide_eq_true_eq, Bool.and_true, Bool.and_self, setG_nil] ) <;> ((repeat' apply And.intro) <;> first | exact True.intro | omega | (simp; done) | rfl))) ?_
  rintro ⟨ws, rd, n, p⟩ ⟨hpre, ⟨hn, hp⟩, ⟨hwl, hrl⟩, hhid, hno⟩
  (try dsimp only at hpre hn hp hwl hrl hhid hno ⊢)
  by_cases hp2 : p < ws.length
  case neg =>
    have hp3 : p = ws.length := by omega
    subst hp3
    rw [List.take_length] at hno
    rw [loopG_eq fs us (256 - n) ws rd, findG_none.2 hno] at hpre
    dsimp only at hpre
    rw [hpre]
    clear hpre
    repeat (first
      | (apply axJ; (focus ((with_reducible constructor) <;> rfl)))
      | (apply awT mixedOK hΓ (by kernel_rfl); (simp (disch := omega) only [go_sem, ↓reduceIte, dk, ↓lk, Int.reduceBEq, Int.reduceBNe, Bool.true_bne, Bool.false_bne, Bool.not_true, Bool.not_false] <;> with_reducible rfl))
      | ((first | apply awR hΓ | apply awG | apply awH mixedOK hΓ rfl (by kernel_rfl) | apply ovE rfl); (simp (disch := omega) only [go_sem, ↓reduceIte, dk, ↓lk, Int.reduceBEq, Int.reduceBNe, Bool.true_bne, Bool.false_bne, Bool.not_true, Bool.not_false] <;> with_reducible rfl); exact trivial)
      | rfl)
    refine awp_weak (Weak.nilrowF (i := 22) 55 (sz := 2) (by omega) (by omega) rfl) ?_
    refine awp_loop_at (X := Nat) (fun i => (frame 152 [(12, .data (.list ((setG rd).map eSp))), (22, .row 27 i), (138, .data (.list (ws.map eWr))), (139, .data (i64 ws.length)), (140, .data (i64 i))])) (fun i => [(27, .row 55 2 (((ws.map (·.1)).take i).map eTk))]) 28
      (fun i => i ≤ ws.length) (fun i => ws.length - i) 0 (Nat.zero_le _) (Weak.v (by (simp [ConvF, lookV, Conv, ints, upd]; done)) (by (simp (disch := omega) only [TabSub, look, if_pos, if_neg, Obj.refsOK, refsOKs, AV.refsOK, decide_eq_true_eq, Bool.and_true, Bool.and_self, upd] ) <;> ((repeat' apply And.intro) <;> first | exact True.intro | omega | (simp; done) | rfl))) ?_
    rintro i hi
    (try dsimp only at hi ⊢)
    by_cases hi2 : i < ws.length
    · have hst : ((ws.map (·.1)).take (i + 1)).map eTk = ((ws.map (·.1)).take i).map eTk ++ [.agg [i64 ws[i].1.1, .str ws[i].1.2]] := by
        rw [List.take_add_one, List.getElem?_map, List.getElem?_eq_getElem hi2, List.map_append]
        rfl
      have hll : (((ws.map (·.1)).take i).map eTk).length = i := by simp; omega
      generalize ((ws.map (·.1)).take i).map eTk = R at *
      generalize hz : ws[i] = z at *
      obtain ⟨⟨z1, z2⟩, z3⟩ := z
      dsimp only at hst
      repeat (first
        | (apply axJ; (focus ((with_reducible constructor) <;> rfl)))
        | (apply awT mixedOK hΓ (by kernel_rfl); (simp (disch := omega) only [go_sem, ↓reduceIte, dk, ↓lk, Int.reduceBEq, Int.reduceBNe, Bool.true_bne, Bool.false_bne, Bool.not_true, Bool.not_false, hz, hll] <;> with_reducible rfl))
        | ((first | apply awR hΓ | apply awG | apply awH mixedOK hΓ rfl (by kernel_rfl) | apply ovE rfl); (simp (disch := omega) only [go_sem, ↓reduceIte, dk, ↓lk, Int.reduceBEq, Int.reduceBNe, Bool.true_bne, Bool.false_bne, Bool.not_true, Bool.not_false, hz, hll] <;> with_reducible rfl); exact trivial)
        | rfl)
      exact ⟨i + 1, by omega, by omega, by rw [hst]; exact Weak.w⟩
    have hi3 : i = ws.length := by omega
    subst hi3
    have hte : (ws.map (·.1)).take ws.length = ws.map (·.1) := List.take_of_length_le (by simp)
    rw [hte]
    unfold eLR
    repeat (first
      | (apply axJ; (focus ((with_reducible constructor) <;> rfl)))
      | (apply awT mixedOK hΓ (by kernel_rfl); (simp (disch := omega) only [go_sem, ↓reduceIte, dk, ↓lk, Int.reduceBEq, Int.reduceBNe, Bool.true_bne, Bool.false_bne, Bool.not_true, Bool.not_false] <;> with_reducible rfl))
      | ((first | apply awR hΓ | apply awG | apply awH mixedOK hΓ rfl (by kernel_rfl) | apply ovE rfl); (simp (disch := omega) only [go_sem, ↓reduceIte, dk, ↓lk, Int.reduceBEq, Int.reduceBNe, Bool.true_bne, Bool.false_bne, Bool.not_true, Bool.not_false] <;> with_reducible rfl); exact trivial)
      | rfl)
    try rfl
  have hpw := hhid _ (List.getElem_mem hp2)
  have e2 := g_meantR_eq (us := us) (w := ws[p]) ⟨by omega, by have := hpw.len; omega⟩
  have hfa := fun m => findG_at (us := us) (m := m) hp2 hno
  have hno2 : meantB us ws[p] = none → ∀ w ∈ ws.take (p + 1), meantB us w = none := fun h w hw => by
    rw [List.take_add_one, List.getElem?_eq_getElem hp2, List.mem_append] at hw
    rcases hw with hw | hw
    · exact hno w hw
    · simp only [Option.toList_some, List.mem_singleton] at hw
      rw [hw]; exact h
  have hgd : ws.getD p ((0, []), []) = ws[p] := by rw [List.getD_eq_getElem?_getD, List.getElem?_eq_getElem hp2]; rfl
  rw [eU_eq, eWr_eq] at e2
  generalize hz : ws[p] = z at *
  repeat (first
    | (apply axJ; (focus ((with_reducible constructor) <;> rfl)))
    | (apply awT mixedOK hΓ (by kernel_rfl); (simp (disch := omega) only [go_sem, ↓reduceIte, dk, ↓lk, Int.reduceBEq, Int.reduceBNe, Bool.true_bne, Bool.false_bne, Bool.not_true, Bool.not_false] <;> with_reducible rfl))
    | ((first | apply awR hΓ | apply awG | apply awH mixedOK hΓ rfl (by kernel_rfl) | apply ovE rfl); (simp (disch := omega) only [go_sem, ↓reduceIte, dk, ↓lk, Int.reduceBEq, Int.reduceBNe, Bool.true_bne, Bool.false_bne, Bool.not_true, Bool.not_false] <;> with_reducible rfl); exact trivial)
    | rfl)
  cases hm : meantB us z with
  | none =>
    rw [hm] at e2
    replace e2 : g_meantR [.agg [.str [], .list [], .list (us.map eMc), .list [], .list [], .list []], .agg [i64 z.1.1, .str z.1.2, .list (z.2.map .str)]] = some (.tup [.agg [.str [], .list [], .str [], i64 0, i64 0], .bool false]) := e2
    (apply awp_lane3 (nst := false) (nst' := false) [false, false, false, false, false, false, false, false, false, true, true] mixedOK hΓ (n1 := 11) (by kernel_rfl) (by kernel_rfl); (focus (dsimp only [List.take_succ_cons, List.take_zero, Array.toList]; (repeat (first | (apply lane3_loud; (focus rfl); (focus rfl); (simp (disch := omega) only [go_sem, ↓reduceIte, ↓lk, dk, hz, e2, look_upd] <;> with_reducible rfl); (focus (first | (simp (disch := omega) only [go_sem, ↓reduceIte, ↓lk, dk, hz, e2, look_upd]; done) | (simp (disch := omega) only [go_sem, ↓reduceIte, ↓lk, dk, hz, e2, look_upd]; omega)))) | (apply lane3_quiet; (simp (disch := omega) only [go_sem, ↓reduceIte, ↓lk, dk, hz, e2, look_upd] <;> with_reducible rfl)))); exact lane3_nil)); (focus ((repeat' (first | exact True.intro | refine And.intro ?_ ?_)); all_goals (first | (left; decide) | (left; rfl) | (right; simp (disch := omega) only [go_sem, ↓reduceIte, ↓lk, dk, hz, e2, look_upd]; try with_reducible rfl)))); (simp (disch := omega) only [go_sem, ↓reduceIte, ↓lk, dk, hz, e2, look_upd] <;> with_reducible rfl))
    repeat (first
      | (apply axJ; (focus ((with_reducible constructor) <;> rfl)))
      | (apply awT mixedOK hΓ (by kernel_rfl); (simp (disch := omega) only [go_sem, ↓reduceIte, dk, ↓lk, Int.reduceBEq, Int.reduceBNe, Bool.true_bne, Bool.false_bne, Bool.not_true, Bool.not_false] <;> with_reducible rfl))
      | ((first | apply awR hΓ | apply awG | apply awH mixedOK hΓ rfl (by kernel_rfl) | apply ovE rfl); (simp (disch := omega) only [go_sem, ↓reduceIte, dk, ↓lk, Int.reduceBEq, Int.reduceBNe, Bool.true_bne, Bool.false_bne, Bool.not_true, Bool.not_false] <;> with_reducible rfl); exact trivial)
      | rfl)
    exact ⟨(ws, rd, n, p + 1), ⟨hpre, ⟨hn, by dsimp only; omega⟩, ⟨hwl, hrl⟩, hhid, hno2 hm⟩, by dsimp only; omega, Weak.w⟩
  | some m =>
    have hmm := (meant_mem hm).1
    have hfs := hfa m hm
    rw [hm] at e2
    rw [loopG_eq fs us (256 - n) ws rd, hfs] at hpre
    dsimp only at hpre
    obtain ⟨mn, mp, m3, m4, m5⟩ := m
    replace e2 : g_meantR [.agg [.str [], .list [], .list (us.map eMc), .list [], .list [], .list []], .agg [i64 z.1.1, .str z.1.2, .list (z.2.map .str)]] = some (.tup [.agg [.str mn, .list (mp.map .str), .str m3, i64 m4, i64 m5], .bool true]) := e2
    (apply awp_lane3 (nst := false) (nst' := false) [false, false, false, false, false, false, false, false, false, true, true] mixedOK hΓ (n1 := 11) (by kernel_rfl) (by kernel_rfl); (focus (dsimp only [List.take_succ_cons, List.take_zero, Array.toList]; (repeat (first | (apply lane3_loud; (focus rfl); (focus rfl); (simp (disch := omega) only [go_sem, ↓reduceIte, ↓lk, dk, hz, e2, look_upd] <;> with_reducible rfl); (focus (first | (simp (disch := omega) only [go_sem, ↓reduceIte, ↓lk, dk, hz, e2, look_upd]; done) | (simp (disch := omega) only [go_sem, ↓reduceIte, ↓lk, dk, hz, e2, look_upd]; omega)))) | (apply lane3_quiet; (simp (disch := omega) only [go_sem, ↓reduceIte, ↓lk, dk, hz, e2, look_upd] <;> with_reducible rfl)))); exact lane3_nil)); (focus ((repeat' (first | exact True.intro | refine And.intro ?_ ?_)); all_goals (first | (left; decide) | (left; rfl) | (right; simp (disch := omega) only [go_sem, ↓reduceIte, ↓lk, dk, hz, e2, look_upd]; try with_reducible rfl)))); (simp (disch := omega) only [go_sem, ↓reduceIte, ↓lk, dk, hz, e2, look_upd] <;> with_reducible rfl))
    by_cases hn2 : n = 256
    · subst hn2
      have hn3 : (((256 : Nat) : Int) == 256) = true := rfl
      simp only [Nat.sub_self] at hpre
      rw [hpre]
      repeat (first
        | (apply axJ; (focus ((with_reducible constructor) <;> rfl)))
        | (apply awT mixedOK hΓ (by kernel_rfl); (simp (disch := omega) only [go_sem, ↓reduceIte, dk, ↓lk, Int.reduceBEq, Int.reduceBNe, Bool.true_bne, Bool.false_bne, Bool.not_true, Bool.not_false, hn3] <;> with_reducible rfl))
        | ((first | apply awR hΓ | apply awG | apply awH mixedOK hΓ rfl (by kernel_rfl) | apply ovE rfl); (simp (disch := omega) only [go_sem, ↓reduceIte, dk, ↓lk, Int.reduceBEq, Int.reduceBNe, Bool.true_bne, Bool.false_bne, Bool.not_true, Bool.not_false, hn3] <;> with_reducible rfl); exact trivial)
        | rfl)
      try rfl
    have hn3 : ((n : Int) == 256) = false := by rw [beq_eq_false_iff_ne]; omega
    obtain ⟨k, hk⟩ : ∃ k, 256 - n = k + 1 := ⟨256 - n - 1, by omega⟩
    rw [hk] at hpre
    dsimp only at hpre
    have hdl : (ws.drop (p + 1)).length = ws.length - (p + 1) := List.length_drop
    have hAE : argsE ⟨mn, mp, (m3, m4, m5)⟩ (ws.drop (p + 1)) = if mp.isEmpty then (([], ws.drop (p + 1)), (0 : Int)) else match argsG (ws.drop (p + 1)) with
      | none => (([], []), 4)
      | some (a, r) => if a.length == mp.length then ((a, r), 0) else (([], []), 9) := rfl
    have hAO := fun h => argsE_ok (m := ⟨mn, mp, (m3, m4, m5)⟩) (l := ws.drop (p + 1)) h
    have hgt : decide ((mp.length : Int) > 0) = !mp.isEmpty := by cases mp <;> simp <;> omega
    have e4 := g_argsR7_eq (l := ws) (p := p) ⟨by omega, hp2⟩
    repeat (first
      | (apply axJ; (focus ((with_reducible constructor) <;> rfl)))
      | (apply awT mixedOK hΓ (by kernel_rfl); (simp (disch := omega) only [go_sem, ↓reduceIte, dk, ↓lk, Int.reduceBEq, Int.reduceBNe, Bool.true_bne, Bool.false_bne, Bool.not_true, Bool.not_false, hn3] <;> with_reducible rfl))
      | ((first | apply awR hΓ | apply awG | apply awH mixedOK hΓ rfl (by kernel_rfl) | apply ovE rfl); (simp (disch := omega) only [go_sem, ↓reduceIte, dk, ↓lk, Int.reduceBEq, Int.reduceBNe, Bool.true_bne, Bool.false_bne, Bool.not_true, Bool.not_false, hn3] <;> with_reducible rfl); exact trivial)
      | rfl)
    refine awp_mid (Y := List (List Wd) × Int × Int) (fun y => (frame 152 [(0, .data (.list (fs.map eFl))), (4, .ptr 0 0), (9, .data (.list (ws.map eWr))), (12, .data (.list ((setG rd).map eSp))), (13, .data (i64 ((n : Int) + 1))), (14, .data (i64 p)), (15, .ptr 32 0), (17, .data (.list (y.1.map eWrs))), (18, .data (i64 y.2.1)), (19, .data (i64 y.2.2))])) (fun _ => [(0, .box [.data (.str []), .data (.list []), .data (.list (us.map eMc)), .data (.list []), .data (.list []), .data (.list [])]), (32, .box [.data (.str mn), .data (.list (mp.map .str)), .data (.str m3), .data (i64 m4), .data (i64 m5)])]) 51
      (fun y => (argsE ⟨mn, mp, (m3, m4, m5)⟩ (ws.drop (p + 1))).2 = y.2.2 ∧ (y.2.2 = 0 → y.1 = (argsE ⟨mn, mp, (m3, m4, m5)⟩ (ws.drop (p + 1))).1.1 ∧ y.2.1 = (ws.length : Int) - ((argsE ⟨mn, mp, (m3, m4, m5)⟩ (ws.drop (p + 1))).1.2.length : Int))) ?_ ?_
    · rw [hAE]
      cases hmp : mp.isEmpty
      case true =>
        rw [hmp] at hgt
        simp only [if_true]
        repeat (first
          | (apply axJ; (focus ((with_reducible constructor) <;> rfl)))
          | (apply awT mixedOK hΓ (by kernel_rfl); (simp (disch := omega) only [go_sem, ↓reduceIte, dk, ↓lk, Int.reduceBEq, Int.reduceBNe, Bool.true_bne, Bool.false_bne, Bool.not_true, Bool.not_false, hgt] <;> with_reducible rfl))
          | ((first | apply awR hΓ | apply awG | apply awH mixedOK hΓ rfl (by kernel_rfl) | apply ovE rfl); (simp (disch := omega) only [go_sem, ↓reduceIte, dk, ↓lk, Int.reduceBEq, Int.reduceBNe, Bool.true_bne, Bool.false_bne, Bool.not_true, Bool.not_false, hgt] <;> with_reducible rfl); exact trivial)
          | rfl)
        exact ⟨([], (p : Int) + 1, 0), ⟨rfl, fun _ => ⟨rfl, by dsimp only; omega⟩⟩, Weak.w⟩
      rw [hmp] at hgt
      simp only [Bool.false_eq_true, if_false]
      cases hag : argsG (ws.drop (p + 1)) with
      | none =>
        rw [hag] at e4
        replace e4 : g_argsR7 [.list (ws.map eWr), .int .i64 p] = some (.tup [.list [], .int .i64 0, .int .i64 4]) := e4
        repeat (first
          | (apply axJ; (focus ((with_reducible constructor) <;> rfl)))
          | (apply awT mixedOK hΓ (by kernel_rfl); (simp (disch := omega) only [go_sem, ↓reduceIte, dk, ↓lk, Int.reduceBEq, Int.reduceBNe, Bool.true_bne, Bool.false_bne, Bool.not_true, Bool.not_false, hgt, e4] <;> with_reducible rfl))
          | ((first | apply awR hΓ | apply awG | apply awH mixedOK hΓ rfl (by kernel_rfl) | apply ovE rfl); (simp (disch := omega) only [go_sem, ↓reduceIte, dk, ↓lk, Int.reduceBEq, Int.reduceBNe, Bool.true_bne, Bool.false_bne, Bool.not_true, Bool.not_false, hgt, e4] <;> with_reducible rfl); exact trivial)
          | rfl)
        exact ⟨([], 0, 4), ⟨rfl, fun h => by cases h⟩, Weak.w⟩
      | some q =>
        obtain ⟨a, r⟩ := q
        rw [hag] at e4
        replace e4 : g_argsR7 [.list (ws.map eWr), .int .i64 p] = some (.tup [.list (a.map eWrs), .int .i64 ((ws.length : Int) - (r.length : Int)), .int .i64 0]) := e4
        dsimp only
        cases hal : (a.length == mp.length)
        · have hal2 : (((a.length : Nat) : Int) != (mp.length : Int)) = true := by
            simp only [beq_eq_false_iff_ne] at hal
            simp only [bne_iff_ne, ne_eq]
            omega
          simp only [Bool.false_eq_true, if_false]
          repeat (first
            | (apply axJ; (focus ((with_reducible constructor) <;> rfl)))
            | (apply awT mixedOK hΓ (by kernel_rfl); (simp (disch := omega) only [go_sem, ↓reduceIte, dk, ↓lk, Int.reduceBEq, Int.reduceBNe, Bool.true_bne, Bool.false_bne, Bool.not_true, Bool.not_false, hgt, e4, hal2] <;> with_reducible rfl))
            | ((first | apply awR hΓ | apply awG | apply awH mixedOK hΓ rfl (by kernel_rfl) | apply ovE rfl); (simp (disch := omega) only [go_sem, ↓reduceIte, dk, ↓lk, Int.reduceBEq, Int.reduceBNe, Bool.true_bne, Bool.false_bne, Bool.not_true, Bool.not_false, hgt, e4, hal2] <;> with_reducible rfl); exact trivial)
            | rfl)
          exact ⟨(a, (ws.length : Int) - (r.length : Int), 9), ⟨rfl, fun h => by cases h⟩, Weak.w⟩
        · have hal2 : (((a.length : Nat) : Int) != (mp.length : Int)) = false := by
            simp only [beq_iff_eq] at hal
            simp [hal]
          simp only [if_true]
          repeat (first
            | (apply axJ; (focus ((with_reducible constructor) <;> rfl)))
            | (apply awT mixedOK hΓ (by kernel_rfl); (simp (disch := omega) only [go_sem, ↓reduceIte, dk, ↓lk, Int.reduceBEq, Int.reduceBNe, Bool.true_bne, Bool.false_bne, Bool.not_true, Bool.not_false, hgt, e4, hal2] <;> with_reducible rfl))
            | ((first | apply awR hΓ | apply awG | apply awH mixedOK hΓ rfl (by kernel_rfl) | apply ovE rfl); (simp (disch := omega) only [go_sem, ↓reduceIte, dk, ↓lk, Int.reduceBEq, Int.reduceBNe, Bool.true_bne, Bool.false_bne, Bool.not_true, Bool.not_false, hgt, e4, hal2] <;> with_reducible rfl); exact trivial)
            | rfl)
          exact ⟨(a, (ws.length : Int) - (r.length : Int), 0), ⟨rfl, fun _ => ⟨rfl, rfl⟩⟩, Weak.w⟩
    rintro ⟨a, en, er⟩ ⟨h1, h2⟩
    dsimp only at h1 h2
    have hR : replG fs ⟨mn, mp, (m3, m4, m5)⟩ ws p = if (argsE ⟨mn, mp, (m3, m4, m5)⟩ (ws.drop (p + 1))).2 == 0 then
      (if (bodyB fs (m3, m4, m5)).2 == 0 then
        (if decide (((nowG ⟨mn, mp, (m3, m4, m5)⟩ ws p (argsE ⟨mn, mp, (m3, m4, m5)⟩ (ws.drop (p + 1))).1.1 (argsE ⟨mn, mp, (m3, m4, m5)⟩ (ws.drop (p + 1))).1.2 (bodyB fs (m3, m4, m5)).1).length : Int) > 256) then ([], 10)
         else (nowG ⟨mn, mp, (m3, m4, m5)⟩ ws p (argsE ⟨mn, mp, (m3, m4, m5)⟩ (ws.drop (p + 1))).1.1 (argsE ⟨mn, mp, (m3, m4, m5)⟩ (ws.drop (p + 1))).1.2 (bodyB fs (m3, m4, m5)).1, 0))
       else ([], (bodyB fs (m3, m4, m5)).2))
      else ([], (argsE ⟨mn, mp, (m3, m4, m5)⟩ (ws.drop (p + 1))).2) := rfl
    have hrt := repl_take (fs := fs) (m := ⟨mn, mp, (m3, m4, m5)⟩) (l := ws) (i := p) (by omega)
    have hrl2 := repl_len (fs := fs) (m := ⟨mn, mp, (m3, m4, m5)⟩) (l := ws) (i := p)
    have hrh := repl_hid (fs := fs) (m := ⟨mn, mp, (m3, m4, m5)⟩) hmm hhid hp2
    rw [h1] at hR
    clear hAE e4 hgt
    by_cases her : er = 0
    case neg =>
      have her2 : (er != 0) = true := by simpa using her
      have her3 : (er == 0) = false := by simpa using her
      rw [her3] at hR
      simp only [Bool.false_eq_true, if_false] at hR
      rw [hR, her3] at hpre
      simp only [Bool.false_eq_true, if_false] at hpre
      rw [hpre]
      repeat (first
        | (apply axJ; (focus ((with_reducible constructor) <;> rfl)))
        | (apply awT mixedOK hΓ (by kernel_rfl); (simp (disch := omega) only [go_sem, ↓reduceIte, dk, ↓lk, Int.reduceBEq, Int.reduceBNe, Bool.true_bne, Bool.false_bne, Bool.not_true, Bool.not_false, her2, her3] <;> with_reducible rfl))
        | ((first | apply awR hΓ | apply awG | apply awH mixedOK hΓ rfl (by kernel_rfl) | apply ovE rfl); (simp (disch := omega) only [go_sem, ↓reduceIte, dk, ↓lk, Int.reduceBEq, Int.reduceBNe, Bool.true_bne, Bool.false_bne, Bool.not_true, Bool.not_false, her2, her3] <;> with_reducible rfl); exact trivial)
        | rfl)
      try rfl
    subst her
    obtain ⟨ha, hen⟩ := h2 rfl
    obtain ⟨q1, q2, q3⟩ := hAO h1
    rw [← ha] at q2 q3 hR
    generalize (argsE ⟨mn, mp, (m3, m4, m5)⟩ (ws.drop (p + 1))).1.2 = r at *
    clear ha h1 h2 hAO
    have e3 := g_bodyRR_eq (fs := fs) (m := ⟨mn, mp, (m3, m4, m5)⟩) ⟨d1, d2⟩
    have hbl := body_len fs (m3, m4, m5)
    dsimp only at e3 q2
    generalize bodyB fs (m3, m4, m5) = B at *
    obtain ⟨b, be⟩ := B
    replace e3 : g_bodyRR [.list (fs.map eFl), .agg [.str mn, .list (mp.map .str), .str m3, .int .i64 m4, .int .i64 m5]] = some (.tup [.list (b.map eTk), .int .i64 be]) := e3
    dsimp only at hR hbl
    simp only [beq_self_eq_true, if_true] at hR
    by_cases hbe : be = 0
    case neg =>
      have hbe2 : (be != 0) = true := by simpa using hbe
      have hbe3 : (be == 0) = false := by simpa using hbe
      rw [hbe3] at hR
      simp only [Bool.false_eq_true, if_false] at hR
      rw [hR, hbe3] at hpre
      simp only [Bool.false_eq_true, if_false] at hpre
      rw [hpre]
      repeat (first
        | (apply axJ; (focus ((with_reducible constructor) <;> rfl)))
        | (apply awT mixedOK hΓ (by kernel_rfl); (simp (disch := omega) only [go_sem, ↓reduceIte, dk, ↓lk, Int.reduceBEq, Int.reduceBNe, Bool.true_bne, Bool.false_bne, Bool.not_true, Bool.not_false, e3, hbe2] <;> with_reducible rfl))
        | ((first | apply awR hΓ | apply awG | apply awH mixedOK hΓ rfl (by kernel_rfl) | apply ovE rfl); (simp (disch := omega) only [go_sem, ↓reduceIte, dk, ↓lk, Int.reduceBEq, Int.reduceBNe, Bool.true_bne, Bool.false_bne, Bool.not_true, Bool.not_false, e3, hbe2] <;> with_reducible rfl); exact trivial)
        | rfl)
      try rfl
    subst hbe
    simp only [beq_self_eq_true, if_true] at hR
    repeat (first
      | (apply axJ; (focus ((with_reducible constructor) <;> rfl)))
      | (apply awT mixedOK hΓ (by kernel_rfl); (simp (disch := omega) only [go_sem, ↓reduceIte, dk, ↓lk, Int.reduceBEq, Int.reduceBNe, Bool.true_bne, Bool.false_bne, Bool.not_true, Bool.not_false, e3] <;> with_reducible rfl))
      | ((first | apply awR hΓ | apply awG | apply awH mixedOK hΓ rfl (by kernel_rfl) | apply ovE rfl); (simp (disch := omega) only [go_sem, ↓reduceIte, dk, ↓lk, Int.reduceBEq, Int.reduceBNe, Bool.true_bne, Bool.false_bne, Bool.not_true, Bool.not_false, e3] <;> with_reducible rfl); exact trivial)
      | rfl)
    have e5 := g_addSpR_eq (l := setG rd) (sp := (m3, m4, m5)) (by have := setG_len rd; omega)
    rw [eSp_eq] at e5
    have hsn := setG_snoc rd (m3, m4, m5)
    have hfl : full (m3, m4, m5) = decide (m5 > m4) := rfl
    rw [hfl] at hsn
    refine awp_mid (Y := Unit) (fun _ => (frame 152 [(0, .data (.list (fs.map eFl))), (4, .ptr 0 0), (9, .data (.list (ws.map eWr))), (12, .data (.list ((setG (rd ++ [(m3, m4, m5)])).map eSp))), (13, .data (i64 ((n : Int) + 1))), (14, .data (i64 p)), (15, .ptr 32 0), (17, .data (.list (a.map eWrs))), (18, .data (i64 en)), (20, .data (.list (b.map eTk)))])) (fun _ => [(0, .box [.data (.str []), .data (.list []), .data (.list (us.map eMc)), .data (.list []), .data (.list []), .data (.list [])]), (32, .box [.data (.str mn), .data (.list (mp.map .str)), .data (.str m3), .data (i64 m4), .data (i64 m5)])]) 71 (fun _ => True) ?_ ?_
    · cases hc : decide (m5 > m4)
      · rw [hc] at hsn
        simp only [Bool.false_eq_true, if_false] at hsn
        rw [hsn]
        repeat (first
          | (apply axJ; (focus ((with_reducible constructor) <;> rfl)))
          | (apply awT mixedOK hΓ (by kernel_rfl); (simp (disch := omega) only [go_sem, ↓reduceIte, dk, ↓lk, Int.reduceBEq, Int.reduceBNe, Bool.true_bne, Bool.false_bne, Bool.not_true, Bool.not_false] <;> with_reducible rfl))
          | ((first | apply awR hΓ | apply awG | apply awH mixedOK hΓ rfl (by kernel_rfl) | apply ovE rfl); (simp (disch := omega) only [go_sem, ↓reduceIte, dk, ↓lk, Int.reduceBEq, Int.reduceBNe, Bool.true_bne, Bool.false_bne, Bool.not_true, Bool.not_false] <;> with_reducible rfl); exact trivial)
          | rfl)
        exact ⟨(), trivial, Weak.w⟩
      · rw [hc] at hsn
        simp only [if_true] at hsn
        rw [hsn]
        repeat (first
          | (apply axJ; (focus ((with_reducible constructor) <;> rfl)))
          | (apply awT mixedOK hΓ (by kernel_rfl); (simp (disch := omega) only [go_sem, ↓reduceIte, dk, ↓lk, Int.reduceBEq, Int.reduceBNe, Bool.true_bne, Bool.false_bne, Bool.not_true, Bool.not_false, e5] <;> with_reducible rfl))
          | ((first | apply awR hΓ | apply awG | apply awH mixedOK hΓ rfl (by kernel_rfl) | apply ovE rfl); (simp (disch := omega) only [go_sem, ↓reduceIte, dk, ↓lk, Int.reduceBEq, Int.reduceBNe, Bool.true_bne, Bool.false_bne, Bool.not_true, Bool.not_false, e5] <;> with_reducible rfl); exact trivial)
          | rfl)
        exact ⟨(), trivial, Weak.w⟩
    rintro _ _
    clear hsn hfl e5 e3
    have hpd : HidOK us z.2 := hpw
    have hmn : HidOK us [mn] := HidOK.one hmm
    have hzl := hpd.len
    have e6 := g_bothR_eq (a := [mn]) (b := z.2) ⟨by simp, by omega⟩
    replace e6 : g_bothR [.list [.str mn], .list (z.2.map .str)] = some (.list ((bothB [mn] z.2).map .str)) := e6
    have hbh : (bothB [mn] z.2).length ≤ us.length := (hmn.both hpd).len
    have e7 := g_replR7_eq (m := ⟨mn, mp, (m3, m4, m5)⟩) (body := b) (args := a) (hid := bothB [mn] z.2) ⟨⟨d4 _ hmm, q2⟩, by omega, fun x hx => ⟨by have := (q3 x hx).1; omega, fun w hw => by have := (hhid w (List.mem_of_mem_drop ((q3 x hx).2 w hw))).len; omega⟩, by omega⟩
    replace e7 : g_replR7 [.agg [.str mn, .list (mp.map .str), .str m3, .int .i64 m4, .int .i64 m5], .list (b.map eTk), .list (a.map eWrs), .list ((bothB [mn] z.2).map .str)] = some (.list ((b.flatMap (substG ⟨mn, mp, (m3, m4, m5)⟩ a (bothB [mn] z.2))).map eWr)) := e7
    have hnow : nowG ⟨mn, mp, (m3, m4, m5)⟩ ws p a r b = ws.take p ++ (b.flatMap (substG ⟨mn, mp, (m3, m4, m5)⟩ a (bothB [mn] z.2)) ++ r) := by
      unfold nowG
      rw [hgd]
    rw [hnow] at hR
    have hSl := flat_len (m := ⟨mn, mp, (m3, m4, m5)⟩) (args := a) (hid := bothB [mn] z.2) (q := 257) (by decide) (fun x hx => by have := (q3 x hx).1; omega) b
    generalize b.flatMap (substG ⟨mn, mp, (m3, m4, m5)⟩ a (bothB [mn] z.2)) = S at *
    generalize bothB [mn] z.2 = hd at *
    have hrs : r <:+ ws := q1.trans (List.drop_suffix _ _)
    have hrw := suf_drop hrs
    have hrl3 := hrs.length_le
    obtain ⟨ee, hee⟩ : ∃ ee : Nat, ee = ws.length - r.length := ⟨_, rfl⟩
    have hen2 : en = (ee : Int) := by omega
    subst hen2
    rw [← hee] at hrw
    have s1 : List.take p (ws.map eWr) = (ws.take p).map eWr := by rw [List.map_take]
    have s2 : List.drop ee (ws.map eWr) = r.map eWr := by rw [← List.map_drop, hrw]
    have s3 : List.take (ws.length - ee) (r.map eWr) = r.map eWr := List.take_of_length_le (by rw [List.length_map]; omega)
    have hml : ∀ u : List Wd, (u.map eWr).length = u.length := fun u => List.length_map _
    have htl : (ws.take p).length = p := by rw [List.length_take]; omega
    repeat (first
      | (apply axJ; (focus ((with_reducible constructor) <;> rfl)))
      | (apply awT mixedOK hΓ (by kernel_rfl); (simp (disch := omega) only [go_sem, ↓reduceIte, dk, ↓lk, Int.reduceBEq, Int.reduceBNe, Bool.true_bne, Bool.false_bne, Bool.not_true, Bool.not_false, Int.toNat_natCast, Nat.sub_zero, List.drop_zero, s1, s2, s3, List.length_map, htl] <;> with_reducible rfl))
      | ((first | apply awR hΓ | apply awG | apply awH mixedOK hΓ rfl (by kernel_rfl) | apply ovE rfl); (simp (disch := omega) only [go_sem, ↓reduceIte, dk, ↓lk, Int.reduceBEq, Int.reduceBNe, Bool.true_bne, Bool.false_bne, Bool.not_true, Bool.not_false, Int.toNat_natCast, Nat.sub_zero, List.drop_zero, s1, s2, s3, List.length_map, htl] <;> with_reducible rfl); exact trivial)
      | rfl)
    (apply awp_regm (nst := false) (nst' := false) 14 mixedOK hΓ (by kernel_rfl); (simp (disch := omega) only [go_sem, ↓reduceIte, ↓lk, dk, hz, e6, e7, look_upd] <;> with_reducible rfl); (simp (disch := omega) only [go_sem, ↓reduceIte] <;> with_reducible rfl); (focus rfl); (focus rfl); (simp (disch := omega) only [go_sem, ↓reduceIte, ↓lk, dk, hz, e6, e7, look_upd] <;> with_reducible rfl); (focus (first | (simp (disch := omega) only [go_sem, ↓reduceIte, ↓lk, dk, hz, e6, e7, look_upd]; done) | (simp (disch := omega) only [go_sem, ↓reduceIte, ↓lk, dk, hz, e6, e7, look_upd]; omega))); (focus (dsimp only [List.take_succ_cons, List.take_zero]; (repeat (apply same2_cons; (focus (first | (left; decide) | (right; simp (disch := omega) only [go_sem, ↓reduceIte, ↓lk, dk, hz, e6, e7, look_upd]; done))); (simp (disch := omega) only [go_sem, ↓reduceIte, ↓lk, dk, hz, e6, e7, look_upd] <;> with_reducible rfl))); exact same2_nil)); (simp (disch := omega) only [go_sem, ↓reduceIte, ↓lk, dk, hz, e6, e7, look_upd] <;> with_reducible rfl))
    repeat (first
      | (apply axJ; (focus ((with_reducible constructor) <;> rfl)))
      | (apply awT mixedOK hΓ (by kernel_rfl); (simp (disch := omega) only [go_sem, ↓reduceIte, dk, ↓lk, Int.reduceBEq, Int.reduceBNe, Bool.true_bne, Bool.false_bne, Bool.not_true, Bool.not_false, Int.toNat_natCast, Nat.sub_zero, List.drop_zero, s1, s2, s3, List.length_map, htl] <;> with_reducible rfl))
      | ((first | apply awR hΓ | apply awG | apply awH mixedOK hΓ rfl (by kernel_rfl) | apply ovE rfl); (simp (disch := omega) only [go_sem, ↓reduceIte, dk, ↓lk, Int.reduceBEq, Int.reduceBNe, Bool.true_bne, Bool.false_bne, Bool.not_true, Bool.not_false, Int.toNat_natCast, Nat.sub_zero, List.drop_zero, s1, s2, s3, List.length_map, htl] <;> with_reducible rfl); exact trivial)
      | rfl)
    have hnl : ((ws.take p ++ (S ++ r)).length : Int) = ((p + S.length + r.length : Nat) : Int) := by
      rw [List.length_append, List.length_append, htl]
      omega
    rw [hnl] at hR
    cases hbig : decide (((p + S.length + r.length : Nat) : Int) > 256)
    case true =>
      rw [hbig] at hR
      simp only [if_true] at hR
      rw [hR] at hpre
      dsimp only at hpre
      rw [show ((10 : Int) == 0) = false from rfl] at hpre
      simp only [Bool.false_eq_true, if_false] at hpre
      rw [hpre]
      repeat (first
        | (apply axJ; (focus ((with_reducible constructor) <;> rfl)))
        | (apply awT mixedOK hΓ (by kernel_rfl); (simp (disch := omega) only [go_sem, ↓reduceIte, dk, ↓lk, Int.reduceBEq, Int.reduceBNe, Bool.true_bne, Bool.false_bne, Bool.not_true, Bool.not_false, hbig] <;> with_reducible rfl))
        | ((first | apply awR hΓ | apply awG | apply awH mixedOK hΓ rfl (by kernel_rfl) | apply ovE rfl); (simp (disch := omega) only [go_sem, ↓reduceIte, dk, ↓lk, Int.reduceBEq, Int.reduceBNe, Bool.true_bne, Bool.false_bne, Bool.not_true, Bool.not_false, hbig] <;> with_reducible rfl); exact trivial)
        | rfl)
      try rfl
    rw [hbig] at hR
    simp only [Bool.false_eq_true, if_false] at hR
    rw [hR] at hpre hrt hrl2 hrh
    simp only [beq_self_eq_true, if_true] at hpre
    obtain ⟨t1, t2⟩ := hrt rfl
    dsimp only at t1 t2 hrl2 hrh
    have hk2 : 256 - (n + 1) = k := by omega
    have hmS : (ws.take p ++ (S ++ r)).map eWr = (ws.take p).map eWr ++ S.map eWr ++ r.map eWr := by simp
    generalize ws.take p ++ (S ++ r) = NW at *
    have hml2 : p + S.length + r.length = NW.length := by omega
    repeat (first
      | (apply axJ; (focus ((with_reducible constructor) <;> rfl)))
      | (apply awT mixedOK hΓ (by kernel_rfl); (simp (disch := omega) only [go_sem, ↓reduceIte, dk, ↓lk, Int.reduceBEq, Int.reduceBNe, Bool.true_bne, Bool.false_bne, Bool.not_true, Bool.not_false, hbig] <;> with_reducible rfl))
      | ((first | apply awR hΓ | apply awG | apply awH mixedOK hΓ rfl (by kernel_rfl) | apply ovE rfl); (simp (disch := omega) only [go_sem, ↓reduceIte, dk, ↓lk, Int.reduceBEq, Int.reduceBNe, Bool.true_bne, Bool.false_bne, Bool.not_true, Bool.not_false, hbig] <;> with_reducible rfl); exact trivial)
      | rfl)
    refine ⟨(NW, rd ++ [(m3, m4, m5)], n + 1, p), ⟨by dsimp only; rw [hk2]; exact hpre, ⟨by dsimp only; omega, t2⟩, ⟨hrl2, by dsimp only; rw [List.length_append]; simp only [List.length_cons, List.length_nil]; omega⟩, hrh, ?_⟩, by dsimp only; omega, ?_⟩
    · dsimp only
      rw [t1]
      exact hno
    · dsimp only
      rw [← hmS]
      exact Weak.trans (Weak.freeze (o := 71) rfl) (Weak.v (by (simp [ConvF, lookV, Conv, ints, upd, Heap.set, Heap.get, look, hml2]; done)) (by (simp (disch := omega) only [TabSub, look, if_pos, if_neg, Obj.refsOK, refsOKs, AV.refsOK, decide_eq_true_eq, Bool.and_true, Bool.and_self, upd, Heap.set, Heap.get, look, hml2] ) <;> ((repeat' apply And.intro) <;> first | exact True.intro | omega | (simp; done) | rfl)))
end Go.Ab
