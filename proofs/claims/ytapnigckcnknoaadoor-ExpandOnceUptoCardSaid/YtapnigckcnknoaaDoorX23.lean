/-
  One text of the proof (own work): contracts of functions of the program, by the abstract machine.
-/
import Derived.Test.YtapnigckcnknoaaDoorRows
import Derived.Test.YtapnigckcnknoaaDoorX12
import Derived.Test.YtapnigckcnknoaaDoorX21
import Derived.Test.YtapnigckcnknoaaDoorX22
import Derived.Test.YtapnigckcnknoaaDoorX18
import Derived.Test.YtapnigckcnknoaaDoorX17
import Derived.Test.YtapnigckcnknoaaDoorX11
import Derived.Test.YtapnigckcnknoaaDoorX14
import Derived.Test.YtapnigckcnknoaaDoorX15
set_option linter.unusedVariables false
set_option linter.unusedSimpArgs false
namespace Go.Ab
open Go Go.RowKit Go.Proofs
set_option maxRecDepth 10000
set_option maxHeartbeats 40000000
theorem HidOK.wd {us : List Mc} (h1 : us.length ≤ 1000000) (h2 : ∀ m ∈ us, m.name.length ≤ 1099511627776) {w : Wd} (h : HidOK us w.2) : WdOK w :=
  ⟨by have := h.len; omega, fun s hs => by
    obtain ⟨m, hm, rfl⟩ := List.mem_map.1 (h.mem s hs)
    exact h2 m hm⟩
noncomputable def g_lineP7 : List D → Option D := encSpec (fun x : (List Fl) × (List Mc) × (List Tk) => [.list (x.1.map eFl), eU x.2.1, .list (x.2.2.map eTk)]) (fun x : (List Fl) × (List Mc) × (List Tk) => ((x.1.length ≤ 1099511627776 ∧ ∀ f ∈ x.1, f.2.length ≤ 1000000000) ∧ (x.2.1.length ≤ 1000000 ∧ ∀ m ∈ x.2.1, m.params.length ≤ 1000000 ∧ m.name.length ≤ 1099511627776)) ∧ (x.2.2.length ≤ 1099511627776 ∧ ∀ t ∈ x.2.2, t.2.length ≤ 1000000000)) (fun x : (List Fl) × (List Mc) × (List Tk) => eLR (lineG x.1 x.2.1 x.2.2))
theorem g_lineP7_eq {fs : List Fl} {us : List Mc} {l : List Tk} (hd : ((fs.length ≤ 1099511627776 ∧ ∀ f ∈ fs, f.2.length ≤ 1000000000) ∧ (us.length ≤ 1000000 ∧ ∀ m ∈ us, m.params.length ≤ 1000000 ∧ m.name.length ≤ 1099511627776)) ∧ (l.length ≤ 1099511627776 ∧ ∀ t ∈ l, t.2.length ≤ 1000000000)) : g_lineP7 [.list (fs.map eFl), eU us, .list (l.map eTk)] = some (eLR (lineG fs us l)) := encSpec_eq (x := (fs, us, l)) hd fun y hy => by
    obtain ⟨y0, y1, y2⟩ := y; simp only [List.cons.injEq, and_true, true_and, D.str.injEq, D.int.injEq, D.list.injEq, D.bool.injEq, D.agg.injEq, D.clo.injEq, Int.natCast_inj, inj_ie, D.ref.injEq, eU_e, eWd_e, eWd_ie, eTk_ie, eTk_e, eFl_ie, eSp_ie, eSp_e, eMc_e, eMc_ie, hid_e] at hy
    (try obtain ⟨rfl, rfl, rfl⟩ := hy)
    (try subst_vars)
    rfl
theorem f_lineP7_ok : PureOK Tryd.prog 6 false g_lineP7 := by
  have hΓ := Γp f_tprint_ok (Γp f_findP_ok (Γp f_replP_ok (Γp f_setP_ok (Γn))))
  refine pure_enc (n := 85) (rs := [.tmp 6, .tmp 7, .tmp 8]) Tryd.func6 (by kernel_rfl) rfl (by kernel_rfl) (by kernel_rfl) ?_
  rintro ⟨fs, us, l⟩ hd
  (try dsimp only at hd ⊢)
  refine ⟨fun h => (by cases h), fun k hz0 => ?_⟩
  obtain ⟨⟨⟨d1, d2⟩, d3, d4⟩, d5, d6⟩ := hd
  have hL : lineG fs us l = if (printE l).2 == 0 then (((loopG fs us 256 (w0 l) []).1.1.map (·.1), setG (loopG fs us 256 (w0 l) []).1.2), (loopG fs us 256 (w0 l) []).2) else (([], []), (printE l).2) := rfl
  rw [eU_eq]
  have e1 := g_tprint_eq (l := l) ⟨d5, d6⟩
  have hl0 : (printE l).2 = 0 → l.length ≤ 256 := fun h => by
    unfold printE at h
    split at h
    · cases h
    · rename_i h2
      simp only [decide_eq_true_eq] at h2
      omega
  generalize printE l = P at *
  obtain ⟨pt, pe⟩ := P
  dsimp only at hL e1 hl0
  replace e1 : g_tprint [.list (l.map eTk)] = some (.tup [.str pt, .int .i64 pe]) := e1
  rw [start_frame (by simp)]; simp only [enumV, go_sem, emptyH]
  by_cases hpe : pe = 0
  case neg =>
    have hpe2 : (pe != 0) = true := by simpa using hpe
    have hpe3 : (pe == 0) = false := by simpa using hpe
    rw [hpe3] at hL
    simp only [Bool.false_eq_true, if_false] at hL
    rw [hL]
    repeat (first
      | (apply axJ; (focus ((with_reducible constructor) <;> rfl)))
      | (apply awT mixedOK hΓ (by kernel_rfl); (simp (disch := omega) only [go_sem, ↓reduceIte, dk, ↓lk, Int.reduceBEq, Int.reduceBNe, Bool.true_bne, Bool.false_bne, Bool.not_true, Bool.not_false, e1, hpe2] <;> with_reducible rfl))
      | ((first | apply awR hΓ | apply awG | apply awH mixedOK hΓ rfl (by kernel_rfl) | apply ovE rfl); (simp (disch := omega) only [go_sem, ↓reduceIte, dk, ↓lk, Int.reduceBEq, Int.reduceBNe, Bool.true_bne, Bool.false_bne, Bool.not_true, Bool.not_false, e1, hpe2] <;> with_reducible rfl); exact trivial)
      | rfl)
    try rfl
  subst hpe
  have hl1 := hl0 rfl
  simp only [beq_self_eq_true, if_true] at hL
  repeat (first
    | (apply axJ; (focus ((with_reducible constructor) <;> rfl)))
    | (apply awT mixedOK hΓ (by kernel_rfl); (simp (disch := omega) only [go_sem, ↓reduceIte, dk, ↓lk, Int.reduceBEq, Int.reduceBNe, Bool.true_bne, Bool.false_bne, Bool.not_true, Bool.not_false, e1] <;> with_reducible rfl))
    | ((first | apply awR hΓ | apply awG | apply awH mixedOK hΓ rfl (by kernel_rfl) | apply ovE rfl); (simp (disch := omega) only [go_sem, ↓reduceIte, dk, ↓lk, Int.reduceBEq, Int.reduceBNe, Bool.true_bne, Bool.false_bne, Bool.not_true, Bool.not_false, e1] <;> with_reducible rfl); exact trivial)
    | rfl)
  refine awp_weak (Weak.nilrowF (i := 11) 56 (sz := 3) (by omega) (by omega) rfl) ?_
  refine awp_loop_at (X := Nat) (fun i => (frame 85 [(0, .data (.list (fs.map eFl))), (4, .ptr 0 0), (11, .row 17 i), (30, .data (.list (l.map eTk))), (31, .data (i64 l.length)), (32, .data (i64 i))])) (fun i => [(0, .box [.data (.str []), .data (.list []), .data (.list (us.map eMc)), .data (.list []), .data (.list []), .data (.list [])]), (17, .row 56 3 (((w0 l).take i).map eWd))]) 18
    (fun i => i ≤ l.length) (fun i => l.length - i) 0 (Nat.zero_le _) (Weak.v (by (simp [ConvF, lookV, Conv, ints, upd]; done)) (by (simp (disch := omega) only [TabSub, look, if_pos, if_neg, Obj.refsOK, refsOKs, AV.refsOK, decide_eq_true_eq, Bool.and_true, Bool.and_self, upd] ) <;> ((repeat' apply And.intro) <;> first | exact True.intro | omega | (simp; done) | rfl))) ?_
  rintro i hi
  (try dsimp only at hi ⊢)
  by_cases hi2 : i < l.length
  · have hst : ((w0 l).take (i + 1)).map eWd = ((w0 l).take i).map eWd ++ [.agg [i64 l[i].1, .str l[i].2, .map [] []]] := by
      unfold w0
      rw [List.take_add_one, List.getElem?_map, List.getElem?_eq_getElem hi2, List.map_append]
      rfl
    have hll : (((w0 l).take i).map eWd).length = i := by simp [w0]; omega
    generalize ((w0 l).take i).map eWd = R at *
    generalize hy : l[i] = y at *
    obtain ⟨y1, y2⟩ := y
    dsimp only at hst
    repeat (first
      | (apply axJ; (focus ((with_reducible constructor) <;> rfl)))
      | (apply awT mixedOK hΓ (by kernel_rfl); (simp (disch := omega) only [go_sem, ↓reduceIte, dk, ↓lk, Int.reduceBEq, Int.reduceBNe, Bool.true_bne, Bool.false_bne, Bool.not_true, Bool.not_false, ↓ty_build56, hy, hll] <;> with_reducible rfl))
      | ((first | apply awR hΓ | apply awG | apply awH mixedOK hΓ rfl (by kernel_rfl) | apply ovE rfl); (simp (disch := omega) only [go_sem, ↓reduceIte, dk, ↓lk, Int.reduceBEq, Int.reduceBNe, Bool.true_bne, Bool.false_bne, Bool.not_true, Bool.not_false, ↓ty_build56, hy, hll] <;> with_reducible rfl); exact trivial)
      | rfl)
    exact ⟨i + 1, by omega, by omega, by rw [hst]; exact Weak.w⟩
  have hi3 : i = l.length := by omega
  subst hi3
  have hwl0 : (w0 l).length = l.length := by simp [w0]
  rw [← hwl0, List.take_length]
  repeat (first
    | (apply axJ; (focus ((with_reducible constructor) <;> rfl)))
    | (apply awT mixedOK hΓ (by kernel_rfl); (simp (disch := omega) only [go_sem, ↓reduceIte, dk, ↓lk, Int.reduceBEq, Int.reduceBNe, Bool.true_bne, Bool.false_bne, Bool.not_true, Bool.not_false] <;> with_reducible rfl))
    | ((first | apply awR hΓ | apply awG | apply awH mixedOK hΓ rfl (by kernel_rfl) | apply ovE rfl); (simp (disch := omega) only [go_sem, ↓reduceIte, dk, ↓lk, Int.reduceBEq, Int.reduceBNe, Bool.true_bne, Bool.false_bne, Bool.not_true, Bool.not_false] <;> with_reducible rfl); exact trivial)
    | rfl)
  refine awp_weak ((Weak.freeze (o := 17) rfl).trans (show Weak _ _ _ ((frame 85 [(0, .data (.list (fs.map eFl))), (4, .ptr 0 0), (11, .data (.list ((w0 l).map eWd))), (14, .nils), (15, .data (i64 ((0 : Nat) : Int)))])) ⟨[(0, .box [.data (.str []), .data (.list []), .data (.list (us.map eMc)), .data (.list []), .data (.list []), .data (.list [])])], 21⟩ from Weak.v (by (simp [ConvF, lookV, Conv, ints, upd, Heap.set, Heap.get, look]; done)) (by (simp (disch := omega) only [TabSub, look, if_pos, if_neg, Obj.refsOK, refsOKs, AV.refsOK, decide_eq_true_eq, Bool.and_true, Bool.and_self, upd, Heap.set, Heap.get, look] ) <;> ((repeat' apply And.intro) <;> first | exact True.intro | omega | (simp; done) | rfl)))) ?_
  refine awp_weak (Weak.nilrowF (i := 14) 33 (sz := 3) (by omega) (by omega) rfl) ?_
  refine awp_loop_at (X := List Wd × List Sp × Nat) (fun y => (frame 85 [(0, .data (.list (fs.map eFl))), (4, .ptr 0 0), (11, .data (.list (y.1.map eWd))), (14, .row 21 y.2.1.length), (15, .data (i64 y.2.2))])) (fun y => [(0, .box [.data (.str []), .data (.list []), .data (.list (us.map eMc)), .data (.list []), .data (.list []), .data (.list [])]), (21, .row 33 3 (y.2.1.map eSp))]) 22
    (fun y => loopG fs us 256 (w0 l) [] = loopG fs us (256 - y.2.2) y.1 y.2.1 ∧ (y.2.2 ≤ 256 ∧ y.1.length ≤ 256 ∧ y.2.1.length ≤ y.2.2) ∧ HidAll us y.1) (fun y => 256 - y.2.2) (w0 l, [], 0)
    ⟨rfl, ⟨Nat.zero_le _, by dsimp only; omega, Nat.zero_le _⟩, fun w hw => (by obtain ⟨t, _, rfl⟩ := List.mem_map.1 hw; exact ⟨by simp, fun s hs => by cases hs⟩)⟩ (Weak.v (by (simp [ConvF, lookV, Conv, ints, upd]; done)) (by (simp (disch := omega) only [TabSub, look, if_pos, if_neg, Obj.refsOK, refsOKs, AV.refsOK, decide_eq_true_eq, Bool.and_true, Bool.and_self, upd] ) <;> ((repeat' apply And.intro) <;> first | exact True.intro | omega | (simp; done) | rfl))) ?_
  rintro ⟨ws, rd, n⟩ ⟨hpre, ⟨hn, hwl, hrl⟩, hhid⟩
  (try dsimp only at hpre hn hwl hrl hhid ⊢)
  have e2 := g_findP_eq (us := us) (l := ws) ⟨by omega, by omega⟩
  rw [eU_eq] at e2
  rw [loopG_eq fs us (256 - n) ws rd] at hpre
  cases hf : findG us ws with
  | none =>
    rw [hf] at e2 hpre
    replace e2 : g_findP [.agg [.str [], .list [], .list (us.map eMc), .list [], .list [], .list []], .list (ws.map eWd)] = some (.tup [.agg [.str [], .list [], .str [], .int .i64 0, .int .i64 0], .int .i64 (-1)]) := e2
    dsimp only at hpre
    rw [hpre] at hL
    rw [hL]
    clear hpre
    have hlt : decide ((-1 : Int) < 0) = true := rfl
    have e4 := g_setP_eq (l := rd) (by omega)
    repeat (first
      | (apply axJ; (focus ((with_reducible constructor) <;> rfl)))
      | (apply awT mixedOK hΓ (by kernel_rfl); (simp (disch := omega) only [go_sem, ↓reduceIte, dk, ↓lk, Int.reduceBEq, Int.reduceBNe, Bool.true_bne, Bool.false_bne, Bool.not_true, Bool.not_false, e2, hlt] <;> with_reducible rfl))
      | ((first | apply awR hΓ | apply awG | apply awH mixedOK hΓ rfl (by kernel_rfl) | apply ovE rfl); (simp (disch := omega) only [go_sem, ↓reduceIte, dk, ↓lk, Int.reduceBEq, Int.reduceBNe, Bool.true_bne, Bool.false_bne, Bool.not_true, Bool.not_false, e2, hlt] <;> with_reducible rfl); exact trivial)
      | rfl)
    refine awp_weak (Weak.nilrowF (i := 19) 46 (sz := 2) (by omega) (by omega) rfl) ?_
    refine awp_loop_at (X := Nat) (fun i => (frame 85 [(14, .row 21 rd.length), (19, .row 37 i), (70, .data (.list (ws.map eWd))), (71, .data (i64 ws.length)), (72, .data (i64 i))])) (fun i => [(21, .row 33 3 (rd.map eSp)), (37, .row 46 2 (((ws.map (·.1)).take i).map eTk))]) 38
      (fun i => i ≤ ws.length) (fun i => ws.length - i) 0 (Nat.zero_le _) (Weak.v (by (simp [ConvF, lookV, Conv, ints, upd]; done)) (by (simp (disch := omega) only [TabSub, look, if_pos, if_neg, Obj.refsOK, refsOKs, AV.refsOK, decide_eq_true_eq, Bool.and_true, Bool.and_self, upd] ) <;> ((repeat' apply And.intro) <;> first | exact True.intro | omega | (simp; done) | rfl))) ?_
    rintro i hi
    (try dsimp only at hi ⊢)
    by_cases hi2 : i < ws.length
    · have hst : ((ws.map (·.1)).take (i + 1)).map eTk = ((ws.map (·.1)).take i).map eTk ++ [.agg [i64 ws[i].1.1, .str ws[i].1.2]] := by
        rw [List.take_add_one, List.getElem?_map, List.getElem?_eq_getElem hi2, List.map_append]
        rfl
      have hll : (((ws.map (·.1)).take i).map eTk).length = i := by simp; omega
      generalize ((ws.map (·.1)).take i).map eTk = R at *
      generalize hz : ws[i] = z at *
      obtain ⟨⟨z1, z2⟩, z3⟩ := z
      dsimp only at hst
      repeat (first
        | (apply axJ; (focus ((with_reducible constructor) <;> rfl)))
        | (apply awT mixedOK hΓ (by kernel_rfl); (simp (disch := omega) only [go_sem, ↓reduceIte, dk, ↓lk, Int.reduceBEq, Int.reduceBNe, Bool.true_bne, Bool.false_bne, Bool.not_true, Bool.not_false, hz, hll] <;> with_reducible rfl))
        | ((first | apply awR hΓ | apply awG | apply awH mixedOK hΓ rfl (by kernel_rfl) | apply ovE rfl); (simp (disch := omega) only [go_sem, ↓reduceIte, dk, ↓lk, Int.reduceBEq, Int.reduceBNe, Bool.true_bne, Bool.false_bne, Bool.not_true, Bool.not_false, hz, hll] <;> with_reducible rfl); exact trivial)
        | rfl)
      exact ⟨i + 1, by omega, by omega, by rw [hst]; exact Weak.w⟩
    have hi3 : i = ws.length := by omega
    subst hi3
    have hte : (ws.map (·.1)).take ws.length = ws.map (·.1) := List.take_of_length_le (by simp)
    rw [hte]
    unfold eLR
    repeat (first
      | (apply axJ; (focus ((with_reducible constructor) <;> rfl)))
      | (apply awT mixedOK hΓ (by kernel_rfl); (simp (disch := omega) only [go_sem, ↓reduceIte, dk, ↓lk, Int.reduceBEq, Int.reduceBNe, Bool.true_bne, Bool.false_bne, Bool.not_true, Bool.not_false, e4, List.length_map] <;> with_reducible rfl))
      | ((first | apply awR hΓ | apply awG | apply awH mixedOK hΓ rfl (by kernel_rfl) | apply ovE rfl); (simp (disch := omega) only [go_sem, ↓reduceIte, dk, ↓lk, Int.reduceBEq, Int.reduceBNe, Bool.true_bne, Bool.false_bne, Bool.not_true, Bool.not_false, e4, List.length_map] <;> with_reducible rfl); exact trivial)
      | rfl)
    try rfl
  | some q =>
    obtain ⟨i, m⟩ := q
    obtain ⟨hi, hme, _⟩ := findG_some hf
    have hmm := (meant_mem hme).1
    rw [hf] at e2 hpre
    dsimp only at hpre
    have hrl2 := repl_len (fs := fs) (m := m) (l := ws) (i := i)
    have hrh := repl_hid (fs := fs) (m := m) hmm hhid hi
    have e3 := g_replP_eq (fs := fs) (m := m) (l := ws) (n := i) ⟨⟨⟨d1, d2⟩, d4 m hmm⟩, ⟨hwl, hi⟩, fun w hw => (hhid w hw).wd d3 (fun m hm => (d4 m hm).2)⟩
    obtain ⟨mn, mp, m3, m4, m5⟩ := m
    generalize replG fs ⟨mn, mp, (m3, m4, m5)⟩ ws i = G at *
    obtain ⟨nw, er⟩ := G
    dsimp only at hpre hrl2 hrh
    replace e2 : g_findP [.agg [.str [], .list [], .list (us.map eMc), .list [], .list [], .list []], .list (ws.map eWd)] = some (.tup [.agg [.str mn, .list (mp.map .str), .str m3, .int .i64 m4, .int .i64 m5], .int .i64 (i : Int)]) := e2
    replace e3 : g_replP [.list (fs.map eFl), .agg [.str mn, .list (mp.map .str), .str m3, .int .i64 m4, .int .i64 m5], .list (ws.map eWd), .int .i64 (i : Int)] = some (.tup [.list (nw.map eWd), .int .i64 er]) := e3
    have hlt : decide ((i : Int) < 0) = false := decide_eq_false (by omega)
    by_cases hn2 : n = 256
    · subst hn2
      have hn3 : (((256 : Nat) : Int) == 256) = true := rfl
      simp only [Nat.sub_self] at hpre
      rw [hpre] at hL
      rw [hL]
      repeat (first
        | (apply axJ; (focus ((with_reducible constructor) <;> rfl)))
        | (apply awT mixedOK hΓ (by kernel_rfl); (simp (disch := omega) only [go_sem, ↓reduceIte, dk, ↓lk, Int.reduceBEq, Int.reduceBNe, Bool.true_bne, Bool.false_bne, Bool.not_true, Bool.not_false, e2, hlt, hn3] <;> with_reducible rfl))
        | ((first | apply awR hΓ | apply awG | apply awH mixedOK hΓ rfl (by kernel_rfl) | apply ovE rfl); (simp (disch := omega) only [go_sem, ↓reduceIte, dk, ↓lk, Int.reduceBEq, Int.reduceBNe, Bool.true_bne, Bool.false_bne, Bool.not_true, Bool.not_false, e2, hlt, hn3] <;> with_reducible rfl); exact trivial)
        | rfl)
      try rfl
    have hn3 : ((n : Int) == 256) = false := by rw [beq_eq_false_iff_ne]; omega
    obtain ⟨k, hk⟩ : ∃ k, 256 - n = k + 1 := ⟨256 - n - 1, by omega⟩
    rw [hk] at hpre
    dsimp only at hpre
    by_cases her : er = 0
    case neg =>
      have her2 : (er != 0) = true := by simpa using her
      have her3 : (er == 0) = false := by simpa using her
      rw [her3] at hpre
      simp only [Bool.false_eq_true, if_false] at hpre
      rw [hpre] at hL
      rw [hL]
      repeat (first
        | (apply axJ; (focus ((with_reducible constructor) <;> rfl)))
        | (apply awT mixedOK hΓ (by kernel_rfl); (simp (disch := omega) only [go_sem, ↓reduceIte, dk, ↓lk, Int.reduceBEq, Int.reduceBNe, Bool.true_bne, Bool.false_bne, Bool.not_true, Bool.not_false, e2, e3, hlt, hn3, her2] <;> with_reducible rfl))
        | ((first | apply awR hΓ | apply awG | apply awH mixedOK hΓ rfl (by kernel_rfl) | apply ovE rfl); (simp (disch := omega) only [go_sem, ↓reduceIte, dk, ↓lk, Int.reduceBEq, Int.reduceBNe, Bool.true_bne, Bool.false_bne, Bool.not_true, Bool.not_false, e2, e3, hlt, hn3, her2] <;> with_reducible rfl); exact trivial)
        | rfl)
      try rfl
    subst her
    simp only [beq_self_eq_true, if_true] at hpre
    have hk2 : 256 - (n + 1) = k := by omega
    have hmS : (rd ++ [(m3, m4, m5)]).map eSp = rd.map eSp ++ [.agg [.str m3, i64 m4, i64 m5]] := by rw [List.map_append]; rfl
    have hmL : (rd ++ [(m3, m4, m5)]).length = rd.length + 1 := by rw [List.length_append]; rfl
    repeat (first
      | (apply axJ; (focus ((with_reducible constructor) <;> rfl)))
      | (apply awT mixedOK hΓ (by kernel_rfl); (simp (disch := omega) only [go_sem, ↓reduceIte, dk, ↓lk, Int.reduceBEq, Int.reduceBNe, Bool.true_bne, Bool.false_bne, Bool.not_true, Bool.not_false, e2, e3, hlt, hn3] <;> with_reducible rfl))
      | ((first | apply awR hΓ | apply awG | apply awH mixedOK hΓ rfl (by kernel_rfl) | apply ovE rfl); (simp (disch := omega) only [go_sem, ↓reduceIte, dk, ↓lk, Int.reduceBEq, Int.reduceBNe, Bool.true_bne, Bool.false_bne, Bool.not_true, Bool.not_false, e2, e3, hlt, hn3] <;> with_reducible rfl); exact trivial)
      | rfl)
    exact ⟨(nw, rd ++ [(m3, m4, m5)], n + 1), ⟨by dsimp only; rw [hk2]; exact hpre, ⟨by dsimp only; omega, hrl2, by dsimp only; omega⟩, hrh⟩, by dsimp only; omega, by dsimp only; rw [hmS, hmL]; exact Weak.w⟩
end Go.Ab
namespace Go.Ab
open Go Go.RowKit Go.Proofs
set_option maxRecDepth 100000
set_option maxHeartbeats 16000000
noncomputable def g_eqL07 : List D → Option D := encSpec (fun x : (List Sp) × (List Sp) => [.list (x.1.map eSp), .list (x.2.map eSp)]) (fun x : (List Sp) × (List Sp) => x.1.length ≤ 1099511627776 ∧ x.2.length ≤ 1099511627776) (fun x : (List Sp) × (List Sp) => .bool (decide (x.1 = x.2)))
theorem g_eqL07_eq {a : List Sp} {b : List Sp} (hd : a.length ≤ 1099511627776 ∧ b.length ≤ 1099511627776) : g_eqL07 [.list (a.map eSp), .list (b.map eSp)] = some (.bool (decide (a = b))) := encSpec_eq (x := (a, b)) hd fun y hy => by
    obtain ⟨y0, y1⟩ := y; simp only [List.cons.injEq, and_true, true_and, D.str.injEq, D.int.injEq, D.list.injEq, D.bool.injEq, D.agg.injEq, D.clo.injEq, Int.natCast_inj, inj_ie, D.ref.injEq, eU_e, eWd_e, eWd_ie, eWr_e, eWr_ie, eTk_ie, eTk_e, eFl_ie, eSp_ie, eSp_e, eMc_e, eMc_ie, hid_e] at hy
    (try obtain ⟨rfl, rfl⟩ := hy)
    (try subst_vars)
    rfl
theorem f_eqL07_ok : PureOK Tryd.prog 9 true g_eqL07 := by
  have hΓ := Γ0_ok
  refine pure_enc (n := 26) (rs := [.tmp 4]) Tryd.func9 (by kernel_rfl) rfl (by kernel_rfl) (by kernel_rfl) ?_
  rintro ⟨a, b⟩ hd
  (try dsimp only at hd ⊢)
  refine ⟨fun _ => by (repeat (first | exact .int _ _ | exact .bool _ | exact .str _ | (refine .tup _ (fun d hd => ?_); simp only [List.mem_cons, List.not_mem_nil, or_false] at hd; rcases hd with rfl | hd))), fun k hz0 => ?_⟩
  obtain ⟨d1, d2⟩ := hd
  rw [start_frame (by simp)]; simp only [enumV, go_sem, emptyH]
  by_cases hl : a.length = b.length
  case neg =>
    have hab : decide (a = b) = false := decide_eq_false fun e => hl (by rw [e])
    rw [hab]
    have h1 : (((a.length : Nat) : Int) != (b.length : Int)) = true := by
      simp only [bne_iff_ne, ne_eq]
      omega
    repeat (first
      | (apply axJ; (focus ((with_reducible constructor) <;> rfl)))
      | (apply awT mixedOK hΓ (by kernel_rfl); (simp (disch := omega) only [go_sem, ↓reduceIte, dk, ↓lk, Int.reduceBEq, Int.reduceBNe, Bool.true_bne, Bool.false_bne, Bool.not_true, Bool.not_false, h1] <;> with_reducible rfl))
      | ((first | apply awR hΓ | apply awG | apply awH mixedOK hΓ rfl (by kernel_rfl) | apply ovE rfl); (simp (disch := omega) only [go_sem, ↓reduceIte, dk, ↓lk, Int.reduceBEq, Int.reduceBNe, Bool.true_bne, Bool.false_bne, Bool.not_true, Bool.not_false, h1] <;> with_reducible rfl); exact trivial)
      | rfl)
    try rfl
  have h1 : (((a.length : Nat) : Int) != (b.length : Int)) = false := by simp [hl]
  repeat (first
    | (apply axJ; (focus ((with_reducible constructor) <;> rfl)))
    | (apply awT mixedOK hΓ (by kernel_rfl); (simp (disch := omega) only [go_sem, ↓reduceIte, dk, ↓lk, Int.reduceBEq, Int.reduceBNe, Bool.true_bne, Bool.false_bne, Bool.not_true, Bool.not_false, h1] <;> with_reducible rfl))
    | ((first | apply awR hΓ | apply awG | apply awH mixedOK hΓ rfl (by kernel_rfl) | apply ovE rfl); (simp (disch := omega) only [go_sem, ↓reduceIte, dk, ↓lk, Int.reduceBEq, Int.reduceBNe, Bool.true_bne, Bool.false_bne, Bool.not_true, Bool.not_false, h1] <;> with_reducible rfl); exact trivial)
    | rfl)
  refine awp_loop_at (X := Nat) (fun i => (frame 26 [(0, .data (.list (a.map eSp))), (1, .data (.list (b.map eSp))), (12, .data (i64 a.length)), (13, .data (i64 i))])) (fun _ => []) 12
    (fun i => i ≤ a.length ∧ a.take i = b.take i) (fun i => a.length - i) 0 ⟨Nat.zero_le _, rfl⟩ (Weak.w) ?_
  rintro i ⟨hi, hpre⟩
  (try dsimp only at hi hpre ⊢)
  by_cases hi2 : i < a.length
  · have hi3 : i < b.length := by omega
    have hdf := list_diff hi2 hi3
    have hnx : a[i] = b[i] → a.take (i + 1) = b.take (i + 1) := fun h => by
      rw [List.take_add_one, List.take_add_one, hpre, List.getElem?_eq_getElem hi2, List.getElem?_eq_getElem hi3, h]
    generalize hy : a[i] = y at *
    generalize hz : b[i] = z at *
    obtain ⟨y1, y2, y3⟩ := y
    obtain ⟨z1, z2, z3⟩ := z
    by_cases he : ((y1, y2, y3) : Sp) = (z1, z2, z3)
    · have hq : ((y1 == z1) && ((y2 == z2) && (y3 == z3))) = true := by
        simp only [Prod.mk.injEq] at he
        simp [he.1, he.2.1, he.2.2]
      repeat (first
        | (apply axJ; (focus ((with_reducible constructor) <;> rfl)))
        | (apply awT mixedOK hΓ (by kernel_rfl); (simp (disch := omega) only [go_sem, ↓reduceIte, dk, ↓lk, Int.reduceBEq, Int.reduceBNe, Bool.true_bne, Bool.false_bne, Bool.not_true, Bool.not_false, hy, hz, eq_sp, hq] <;> with_reducible rfl))
        | ((first | apply awR hΓ | apply awG | apply awH mixedOK hΓ rfl (by kernel_rfl) | apply ovE rfl); (simp (disch := omega) only [go_sem, ↓reduceIte, dk, ↓lk, Int.reduceBEq, Int.reduceBNe, Bool.true_bne, Bool.false_bne, Bool.not_true, Bool.not_false, hy, hz, eq_sp, hq] <;> with_reducible rfl); exact trivial)
        | rfl)
      exact ⟨i + 1, ⟨by omega, hnx he⟩, by omega, Weak.w⟩
    · have hq : ((y1 == z1) && ((y2 == z2) && (y3 == z3))) = false := by
        rw [Bool.eq_false_iff]
        intro h
        simp only [Bool.and_eq_true, beq_iff_eq] at h
        exact he (by rw [h.1, h.2.1, h.2.2])
      have hab : decide (a = b) = false := decide_eq_false (hdf he)
      rw [hab]
      repeat (first
        | (apply axJ; (focus ((with_reducible constructor) <;> rfl)))
        | (apply awT mixedOK hΓ (by kernel_rfl); (simp (disch := omega) only [go_sem, ↓reduceIte, dk, ↓lk, Int.reduceBEq, Int.reduceBNe, Bool.true_bne, Bool.false_bne, Bool.not_true, Bool.not_false, hy, hz, eq_sp, hq] <;> with_reducible rfl))
        | ((first | apply awR hΓ | apply awG | apply awH mixedOK hΓ rfl (by kernel_rfl) | apply ovE rfl); (simp (disch := omega) only [go_sem, ↓reduceIte, dk, ↓lk, Int.reduceBEq, Int.reduceBNe, Bool.true_bne, Bool.false_bne, Bool.not_true, Bool.not_false, hy, hz, eq_sp, hq] <;> with_reducible rfl); exact trivial)
        | rfl)
      try rfl
  have hi3 : i = a.length := by omega
  subst hi3
  rw [List.take_length, List.take_of_length_le (by omega)] at hpre
  rw [decide_eq_true hpre]
  repeat (first
    | (apply axJ; (focus ((with_reducible constructor) <;> rfl)))
    | (apply awT mixedOK hΓ (by kernel_rfl); (simp (disch := omega) only [go_sem, ↓reduceIte, dk, ↓lk, Int.reduceBEq, Int.reduceBNe, Bool.true_bne, Bool.false_bne, Bool.not_true, Bool.not_false] <;> with_reducible rfl))
    | ((first | apply awR hΓ | apply awG | apply awH mixedOK hΓ rfl (by kernel_rfl) | apply ovE rfl); (simp (disch := omega) only [go_sem, ↓reduceIte, dk, ↓lk, Int.reduceBEq, Int.reduceBNe, Bool.true_bne, Bool.false_bne, Bool.not_true, Bool.not_false] <;> with_reducible rfl); exact trivial)
    | rfl)
  try rfl
noncomputable def g_tokL : List D → Option D := encSpec (fun x : Bs => [.str x]) (fun x : Bs => x.length ≤ 1099511627776) (fun x : Bs => .list ((toksB x).1.map eTk))
theorem g_tokL_eq {s : Bs} (hd : s.length ≤ 1099511627776) : g_tokL [.str s] = some (.list ((toksB s).1.map eTk)) := encSpec_eq (x := s) hd fun y hy => by
    simp only [List.cons.injEq, and_true, true_and, D.str.injEq, D.int.injEq, D.list.injEq, D.bool.injEq, D.agg.injEq, D.clo.injEq, Int.natCast_inj, inj_ie, D.ref.injEq, eU_e, eWd_e, eWd_ie, eWr_e, eWr_ie, eTk_ie, eTk_e, eFl_ie, eSp_ie, eSp_e, eMc_e, eMc_ie, hid_e] at hy
    rw [hy]
theorem f_tokL_ok : PureOK Tryd.prog 7 false g_tokL := by
  have hΓ := Γp f_toksR_ok (Γn)
  refine pure_enc (n := 11) (rs := [.tmp 2]) Tryd.func7 (by kernel_rfl) rfl (by kernel_rfl) (by kernel_rfl) ?_
  rintro s hd
  (try dsimp only at hd ⊢)
  refine ⟨fun h => (by cases h), fun k hz0 => ?_⟩
  have e1 := g_toksR_eq hd
  unfold eTks at e1
  rw [start_frame (by simp)]; simp only [enumV, go_sem, emptyH]
  repeat (first
    | (apply axJ; (focus ((with_reducible constructor) <;> rfl)))
    | (apply awT mixedOK hΓ (by kernel_rfl); (simp (disch := omega) only [go_sem, ↓reduceIte, dk, ↓lk, Int.reduceBEq, Int.reduceBNe, Bool.true_bne, Bool.false_bne, Bool.not_true, Bool.not_false, e1] <;> with_reducible rfl))
    | ((first | apply awR hΓ | apply awG | apply awH mixedOK hΓ rfl (by kernel_rfl) | apply ovE rfl); (simp (disch := omega) only [go_sem, ↓reduceIte, dk, ↓lk, Int.reduceBEq, Int.reduceBNe, Bool.true_bne, Bool.false_bne, Bool.not_true, Bool.not_false, e1] <;> with_reducible rfl); exact trivial)
    | rfl)
  try rfl
def wkFs : List Fl := [([97, 47, 98], [50, 10, 40, 32, 97, 32, 43, 10, 98, 32, 41, 10, 113, 10, 112])]
def wkUs : List Mc := [⟨[112], [], ([97, 47, 98], 3, 4)⟩, ⟨[113], [], ([97, 47, 98], 4, 5)⟩, ⟨[115, 117, 109], [[97], [98]], ([97, 47, 98], 1, 3)⟩, ⟨[116, 119, 111], [], ([97, 47, 98], 0, 1)⟩]
def tkOK (l : List Tk) : Bool := decide (l.length ≤ 1000) && l.all fun t => decide (t.2.length ≤ 1000)
theorem tkOK_d {l : List Tk} (h : tkOK l = true) : l.length ≤ 1099511627776 ∧ ∀ t ∈ l, t.2.length ≤ 1000000000 := by
  unfold tkOK at h
  simp only [Bool.and_eq_true, decide_eq_true_eq, List.all_eq_true] at h
  exact ⟨by omega, fun t ht => by have := h.2 t ht; omega⟩
theorem wk_kS1 : tkOK (toksB [120, 32, 42, 32, 115, 117, 109, 32, 40, 32, 116, 119, 111, 32, 44, 32, 115, 117, 109, 32, 41]).1 = true := by kernel_rfl
theorem wk_kS2 : tkOK (toksB [112]).1 = true := by kernel_rfl
theorem wk_kS3 : tkOK (toksB [115, 117, 109, 32, 40, 32, 49, 32, 41]).1 = true := by kernel_rfl
theorem wk_kS4 : tkOK (toksB [115, 117, 109, 32, 40, 32, 44, 32, 49, 32, 41]).1 = true := by kernel_rfl
theorem wk_kS5 : tkOK (toksB [115, 117, 109, 32, 43, 32, 49]).1 = true := by kernel_rfl
theorem wk_kS6 : tkOK (toksB [120, 32, 42, 32, 40, 32, 50, 32, 43, 32, 115, 117, 109, 32, 41]).1 = true := by kernel_rfl
theorem wk_l1 : lineG wkFs wkUs (toksB [120, 32, 42, 32, 115, 117, 109, 32, 40, 32, 116, 119, 111, 32, 44, 32, 115, 117, 109, 32, 41]).1 = (((toksB [120, 32, 42, 32, 40, 32, 50, 32, 43, 32, 115, 117, 109, 32, 41]).1, [([97, 47, 98], 0, 3)]), 0) := by kernel_rfl
theorem wk_l2 : lineG wkFs wkUs (toksB [112]).1 = (((toksB [112]).1, [([97, 47, 98], 3, 5)]), 0) := by kernel_rfl
theorem wk_l3 : lineG wkFs wkUs (toksB [115, 117, 109, 32, 40, 32, 49, 32, 41]).1 = (([], []), 9) := by kernel_rfl
theorem wk_l4 : lineG wkFs wkUs (toksB [115, 117, 109, 32, 40, 32, 44, 32, 49, 32, 41]).1 = (([], []), 4) := by kernel_rfl
theorem wk_l5 : lineG wkFs wkUs (toksB [115, 117, 109, 32, 43, 32, 49]).1 = (([], []), 4) := by kernel_rfl
theorem mc_cells7 {l : List Mc} : (∀ d ∈ l.map eMc, d.cells.length = 5) ∧ ∀ d ∈ flat (l.map eMc), d.one = true := by
  constructor
  · intro d hd
    obtain ⟨w, _, rfl⟩ := List.mem_map.1 hd
    rfl
  · intro d hd
    unfold flat at hd
    obtain ⟨x, hx, hd⟩ := List.mem_flatMap.1 hd
    obtain ⟨w, _, rfl⟩ := List.mem_map.1 hx
    simp only [eMc, D.cells, List.mem_cons, List.not_mem_nil, or_false] at hd
    rcases hd with rfl | rfl | rfl | rfl | rfl <;> rfl
noncomputable def g_wk07 : List D → Option D := encSpec (fun _ : Unit => []) (fun _ => True) (fun _ => .bool true)
theorem g_wk07_eq : g_wk07 [] = some (.bool true) := encSpec_eq (x := ()) trivial fun _ _ => rfl
theorem f_wk07_ok : PureOK Tryd.prog 4 true g_wk07 := by
  have hΓ := (Γp f_lineP7_ok (Γp f_tokL_ok (Γp f_sameT_ok (Γp f_eqL07_ok (Γn)))))
  refine pure_enc (n := 111) (rs := [.tmp 0]) Tryd.func4 (by kernel_rfl) rfl (by kernel_rfl) (by kernel_rfl) ?_
  rintro _ _
  refine ⟨fun _ => .bool _, fun k hz0 => ?_⟩
  have dd : (wkFs.length ≤ 1099511627776 ∧ ∀ f ∈ wkFs, f.2.length ≤ 1000000000) ∧ (wkUs.length ≤ 1000000 ∧ ∀ m ∈ wkUs, m.params.length ≤ 1000000 ∧ m.name.length ≤ 1099511627776) := ⟨⟨by decide, by decide⟩, by decide, by decide⟩
  have p1 := g_tokL_eq (s := [120, 32, 42, 32, 115, 117, 109, 32, 40, 32, 116, 119, 111, 32, 44, 32, 115, 117, 109, 32, 41]) (by decide)
  have p2 := g_tokL_eq (s := [112]) (by decide)
  have p3 := g_tokL_eq (s := [115, 117, 109, 32, 40, 32, 49, 32, 41]) (by decide)
  have p4 := g_tokL_eq (s := [115, 117, 109, 32, 40, 32, 44, 32, 49, 32, 41]) (by decide)
  have p5 := g_tokL_eq (s := [115, 117, 109, 32, 43, 32, 49]) (by decide)
  have p6 := g_tokL_eq (s := [120, 32, 42, 32, 40, 32, 50, 32, 43, 32, 115, 117, 109, 32, 41]) (by decide)
  have q1 := g_lineP7_eq (fs := wkFs) (us := wkUs) (l := (toksB [120, 32, 42, 32, 115, 117, 109, 32, 40, 32, 116, 119, 111, 32, 44, 32, 115, 117, 109, 32, 41]).1) ⟨dd, tkOK_d wk_kS1⟩
  rw [wk_l1] at q1
  have q2 := g_lineP7_eq (fs := wkFs) (us := wkUs) (l := (toksB [112]).1) ⟨dd, tkOK_d wk_kS2⟩
  rw [wk_l2] at q2
  have q3 := g_lineP7_eq (fs := wkFs) (us := wkUs) (l := (toksB [115, 117, 109, 32, 40, 32, 49, 32, 41]).1) ⟨dd, tkOK_d wk_kS3⟩
  rw [wk_l3] at q3
  have q4 := g_lineP7_eq (fs := wkFs) (us := wkUs) (l := (toksB [115, 117, 109, 32, 40, 32, 44, 32, 49, 32, 41]).1) ⟨dd, tkOK_d wk_kS4⟩
  rw [wk_l4] at q4
  have q5 := g_lineP7_eq (fs := wkFs) (us := wkUs) (l := (toksB [115, 117, 109, 32, 43, 32, 49]).1) ⟨dd, tkOK_d wk_kS5⟩
  rw [wk_l5] at q5
  have r2 := g_sameT_eq (a := (toksB [112]).1) (b := (toksB [112]).1) ⟨(tkOK_d wk_kS2).1, (tkOK_d wk_kS2).1⟩
  have r6 := g_sameT_eq (a := (toksB [120, 32, 42, 32, 40, 32, 50, 32, 43, 32, 115, 117, 109, 32, 41]).1) (b := (toksB [120, 32, 42, 32, 40, 32, 50, 32, 43, 32, 115, 117, 109, 32, 41]).1) ⟨(tkOK_d wk_kS6).1, (tkOK_d wk_kS6).1⟩
  rw [decide_eq_true rfl] at r2 r6
  have t1 := g_eqL07_eq (a := [([97, 47, 98], 0, 3)]) (b := [([97, 47, 98], 0, 3)]) ⟨by decide, by decide⟩
  have t2 := g_eqL07_eq (a := [([97, 47, 98], 3, 5)]) (b := [([97, 47, 98], 3, 5)]) ⟨by decide, by decide⟩
  rw [decide_eq_true rfl] at t1 t2
  clear dd
  generalize (toksB [120, 32, 42, 32, 115, 117, 109, 32, 40, 32, 116, 119, 111, 32, 44, 32, 115, 117, 109, 32, 41]).1 = T1 at *
  generalize (toksB [112]).1 = T2 at *
  generalize (toksB [115, 117, 109, 32, 40, 32, 49, 32, 41]).1 = T3 at *
  generalize (toksB [115, 117, 109, 32, 40, 32, 44, 32, 49, 32, 41]).1 = T4 at *
  generalize (toksB [115, 117, 109, 32, 43, 32, 49]).1 = T5 at *
  generalize (toksB [120, 32, 42, 32, 40, 32, 50, 32, 43, 32, 115, 117, 109, 32, 41]).1 = T6 at *
  replace q1 : g_lineP7 [.list [.agg [.str [97, 47, 98], .str [50, 10, 40, 32, 97, 32, 43, 10, 98, 32, 41, 10, 113, 10, 112]]], .agg [.str [], .list [], .list [.agg [.str [112], .list [], .str [97, 47, 98], .int .i64 3, .int .i64 4], .agg [.str [113], .list [], .str [97, 47, 98], .int .i64 4, .int .i64 5], .agg [.str [115, 117, 109], .list [.str [97], .str [98]], .str [97, 47, 98], .int .i64 1, .int .i64 3], .agg [.str [116, 119, 111], .list [], .str [97, 47, 98], .int .i64 0, .int .i64 1]], .list [], .list [], .list []], .list (T1.map eTk)] = some (.tup [.list (T6.map eTk), .list [.agg [.str [97, 47, 98], .int .i64 0, .int .i64 3]], .int .i64 0]) := q1
  replace q2 : g_lineP7 [.list [.agg [.str [97, 47, 98], .str [50, 10, 40, 32, 97, 32, 43, 10, 98, 32, 41, 10, 113, 10, 112]]], .agg [.str [], .list [], .list [.agg [.str [112], .list [], .str [97, 47, 98], .int .i64 3, .int .i64 4], .agg [.str [113], .list [], .str [97, 47, 98], .int .i64 4, .int .i64 5], .agg [.str [115, 117, 109], .list [.str [97], .str [98]], .str [97, 47, 98], .int .i64 1, .int .i64 3], .agg [.str [116, 119, 111], .list [], .str [97, 47, 98], .int .i64 0, .int .i64 1]], .list [], .list [], .list []], .list (T2.map eTk)] = some (.tup [.list (T2.map eTk), .list [.agg [.str [97, 47, 98], .int .i64 3, .int .i64 5]], .int .i64 0]) := q2
  replace q3 : g_lineP7 [.list [.agg [.str [97, 47, 98], .str [50, 10, 40, 32, 97, 32, 43, 10, 98, 32, 41, 10, 113, 10, 112]]], .agg [.str [], .list [], .list [.agg [.str [112], .list [], .str [97, 47, 98], .int .i64 3, .int .i64 4], .agg [.str [113], .list [], .str [97, 47, 98], .int .i64 4, .int .i64 5], .agg [.str [115, 117, 109], .list [.str [97], .str [98]], .str [97, 47, 98], .int .i64 1, .int .i64 3], .agg [.str [116, 119, 111], .list [], .str [97, 47, 98], .int .i64 0, .int .i64 1]], .list [], .list [], .list []], .list (T3.map eTk)] = some (.tup [.list [], .list [], .int .i64 9]) := q3
  replace q4 : g_lineP7 [.list [.agg [.str [97, 47, 98], .str [50, 10, 40, 32, 97, 32, 43, 10, 98, 32, 41, 10, 113, 10, 112]]], .agg [.str [], .list [], .list [.agg [.str [112], .list [], .str [97, 47, 98], .int .i64 3, .int .i64 4], .agg [.str [113], .list [], .str [97, 47, 98], .int .i64 4, .int .i64 5], .agg [.str [115, 117, 109], .list [.str [97], .str [98]], .str [97, 47, 98], .int .i64 1, .int .i64 3], .agg [.str [116, 119, 111], .list [], .str [97, 47, 98], .int .i64 0, .int .i64 1]], .list [], .list [], .list []], .list (T4.map eTk)] = some (.tup [.list [], .list [], .int .i64 4]) := q4
  replace q5 : g_lineP7 [.list [.agg [.str [97, 47, 98], .str [50, 10, 40, 32, 97, 32, 43, 10, 98, 32, 41, 10, 113, 10, 112]]], .agg [.str [], .list [], .list [.agg [.str [112], .list [], .str [97, 47, 98], .int .i64 3, .int .i64 4], .agg [.str [113], .list [], .str [97, 47, 98], .int .i64 4, .int .i64 5], .agg [.str [115, 117, 109], .list [.str [97], .str [98]], .str [97, 47, 98], .int .i64 1, .int .i64 3], .agg [.str [116, 119, 111], .list [], .str [97, 47, 98], .int .i64 0, .int .i64 1]], .list [], .list [], .list []], .list (T5.map eTk)] = some (.tup [.list [], .list [], .int .i64 4]) := q5
  replace t1 : g_eqL07 [.list [.agg [.str [97, 47, 98], .int .i64 0, .int .i64 3]], .list [.agg [.str [97, 47, 98], .int .i64 0, .int .i64 3]]] = some (.bool true) := t1
  replace t2 : g_eqL07 [.list [.agg [.str [97, 47, 98], .int .i64 3, .int .i64 5]], .list [.agg [.str [97, 47, 98], .int .i64 3, .int .i64 5]]] = some (.bool true) := t2
  rw [start_frame (by simp)]; simp only [enumV, go_sem, emptyH]
  repeat (first
    | (apply axJ; (focus ((with_reducible constructor) <;> rfl)))
    | (apply awT mixedOK hΓ (by kernel_rfl); (simp (disch := omega) only [go_sem, ↓reduceIte, dk, ↓lk, Int.reduceBEq, Int.reduceBNe, Bool.true_bne, Bool.false_bne, Bool.not_true, Bool.not_false, Int.reduceToNat, List.getElem?_cons_zero, List.getElem?_cons_succ, ↓ty_build42, ↓ty_build33, ↓ty_build35, ↓ty_build30] <;> with_reducible rfl))
    | ((first | apply awR hΓ | apply awG | apply awH mixedOK hΓ rfl (by kernel_rfl) | apply ovE rfl); (simp (disch := omega) only [go_sem, ↓reduceIte, dk, ↓lk, Int.reduceBEq, Int.reduceBNe, Bool.true_bne, Bool.false_bne, Bool.not_true, Bool.not_false, Int.reduceToNat, List.getElem?_cons_zero, List.getElem?_cons_succ, ↓ty_build42, ↓ty_build33, ↓ty_build35, ↓ty_build30] <;> with_reducible rfl); exact trivial)
    | rfl)
  repeat (first
    | (apply axJ; (focus ((with_reducible constructor) <;> rfl)))
    | (apply awT mixedOK hΓ (by kernel_rfl); (simp (disch := omega) only [go_sem, ↓reduceIte, dk, ↓lk, Int.reduceBEq, Int.reduceBNe, Bool.true_bne, Bool.false_bne, Bool.not_true, Bool.not_false, Int.reduceToNat, List.getElem?_cons_zero, List.getElem?_cons_succ, ↓ty_build42, ↓ty_build33, ↓ty_build35, ↓ty_build30, zeroLoose, partsLoose, arrRep] <;> with_reducible rfl))
    | ((first | apply awN hΓ | apply awG | apply awH mixedOK hΓ rfl (by kernel_rfl) | apply ovE rfl); (simp (disch := omega) only [go_sem, ↓reduceIte, dk, ↓lk, Int.reduceBEq, Int.reduceBNe, Bool.true_bne, Bool.false_bne, Bool.not_true, Bool.not_false, Int.reduceToNat, List.getElem?_cons_zero, List.getElem?_cons_succ, ↓ty_build42, ↓ty_build33, ↓ty_build35, ↓ty_build30, zeroLoose, partsLoose, arrRep] <;> with_reducible rfl); exact trivial)
    | rfl)
  refine awp_weak (Weak.trans (Weak.freeze (o := 8) rfl) (Weak.trans (Weak.arrRow (o := 13) (l := wkUs.map eMc) rfl ⟨rfl, .inr (.inl ⟨rfl, rfl⟩), rfl, rfl, rfl, rfl, .inr (.inl ⟨rfl, rfl⟩), rfl, rfl, rfl, rfl, .inr (.inr ⟨8, 2, rfl, rfl, rfl⟩), rfl, rfl, rfl, rfl, .inr (.inl ⟨rfl, rfl⟩), rfl, rfl, rfl, trivial⟩ rfl mc_cells7.1 mc_cells7.2) (Weak.trans (Weak.freeze (o := 13) rfl) (Weak.trans (Weak.boxConv (o := 15) (cs' := [.data (.str []), .data (.list []), .data (.list [.agg [.str [112], .list [], .str [97, 47, 98], .int .i64 3, .int .i64 4], .agg [.str [113], .list [], .str [97, 47, 98], .int .i64 4, .int .i64 5], .agg [.str [115, 117, 109], .list [.str [97], .str [98]], .str [97, 47, 98], .int .i64 1, .int .i64 3], .agg [.str [116, 119, 111], .list [], .str [97, 47, 98], .int .i64 0, .int .i64 1]]), .data (.list []), .data (.list []), .data (.list [])]) rfl ⟨rfl, .inr (.inl ⟨rfl, rfl⟩), .inr (.inr ⟨13, 4, rfl, rfl, rfl⟩), .inr (.inl ⟨rfl, rfl⟩), .inr (.inl ⟨rfl, rfl⟩), .inr (.inl ⟨rfl, rfl⟩), trivial⟩) (Weak.trans (Weak.freeze (o := 2) rfl) (show Weak _ _ _ ((frame 111 [(1, .data (.list [.agg [.str [97, 47, 98], .str [50, 10, 40, 32, 97, 32, 43, 10, 98, 32, 41, 10, 113, 10, 112]]])), (2, .ptr 15 0)])) ⟨[(15, .box [.data (.str []), .data (.list []), .data (.list [.agg [.str [112], .list [], .str [97, 47, 98], .int .i64 3, .int .i64 4], .agg [.str [113], .list [], .str [97, 47, 98], .int .i64 4, .int .i64 5], .agg [.str [115, 117, 109], .list [.str [97], .str [98]], .str [97, 47, 98], .int .i64 1, .int .i64 3], .agg [.str [116, 119, 111], .list [], .str [97, 47, 98], .int .i64 0, .int .i64 1]]), .data (.list []), .data (.list []), .data (.list [])])], 17⟩ from Weak.v (by (simp [ConvF, lookV, Conv, ints, upd, Heap.set, Heap.get, look]; done)) (by (simp (disch := omega) only [TabSub, look, if_pos, if_neg, Obj.refsOK, refsOKs, AV.refsOK, decide_eq_true_eq, Bool.and_true, Bool.and_self, upd, Heap.set, Heap.get, look] ) <;> ((repeat' apply And.intro) <;> first | exact True.intro | omega | (simp; done) | rfl)))))))) ?_
  repeat (first
    | (apply axJ; (focus ((with_reducible constructor) <;> rfl)))
    | (apply awT mixedOK hΓ (by kernel_rfl); (simp (disch := omega) only [go_sem, ↓reduceIte, dk, ↓lk, Int.reduceBEq, Int.reduceBNe, Bool.true_bne, Bool.false_bne, Bool.not_true, Bool.not_false, Int.reduceToNat, List.getElem?_cons_zero, List.getElem?_cons_succ, p1, p2, p3, p4, p5, p6, q1, q2, q3, q4, q5] <;> with_reducible rfl))
    | ((first | apply awR hΓ | apply awG | apply awH mixedOK hΓ rfl (by kernel_rfl) | apply ovE rfl); (simp (disch := omega) only [go_sem, ↓reduceIte, dk, ↓lk, Int.reduceBEq, Int.reduceBNe, Bool.true_bne, Bool.false_bne, Bool.not_true, Bool.not_false, Int.reduceToNat, List.getElem?_cons_zero, List.getElem?_cons_succ, p1, p2, p3, p4, p5, p6, q1, q2, q3, q4, q5] <;> with_reducible rfl); exact trivial)
    | rfl)
  refine awp_weak (show Weak _ _ _ ((frame 111 [(3, .data (.list (T6.map eTk))), (4, .data (.list [.agg [.str [97, 47, 98], .int .i64 0, .int .i64 3]])), (5, .data (.int .i64 0)), (6, .data (.list (T2.map eTk))), (7, .data (.list [.agg [.str [97, 47, 98], .int .i64 3, .int .i64 5]])), (8, .data (.int .i64 0)), (11, .data (.int .i64 9)), (14, .data (.int .i64 4)), (17, .data (.int .i64 4))])) ⟨[], 72⟩ from Weak.v (by (simp [ConvF, lookV, Conv, ints, Heap.get, look]; done)) (by (simp (disch := omega) only [TabSub, look, if_pos, if_neg, Obj.refsOK, refsOKs, AV.refsOK, decide_eq_true_eq, Bool.and_true, Bool.and_self, Heap.get, look] ) <;> ((repeat' apply And.intro) <;> first | exact True.intro | omega | (simp; done) | rfl))) ?_
  apply awR hΓ
  · simp (maxSteps := 4000000) (disch := omega) only [go_sem, ↓reduceIte, dk, ↓lk, Int.reduceBEq, Int.reduceBNe, Bool.true_bne, Bool.false_bne, Bool.not_true, Bool.not_false, Int.reduceToNat, Int.reduceAdd, List.getElem?_cons_zero, List.getElem?_cons_succ, BEq.rfl, List.append_eq, List.cons_append, List.nil_append, ↓ty_build33, p2, p6, r2, r6, t1, t2]
    with_reducible rfl
  exact trivial
  repeat (first
    | (apply axJ; (focus ((with_reducible constructor) <;> rfl)))
    | (apply awT mixedOK hΓ (by kernel_rfl); (simp (disch := omega) only [go_sem, ↓reduceIte, dk] <;> with_reducible rfl))
    | ((first | apply awR hΓ | apply awG | apply awH mixedOK hΓ rfl (by kernel_rfl) | apply ovE rfl); (simp (disch := omega) only [go_sem, ↓reduceIte, dk] <;> with_reducible rfl); exact trivial)
    | rfl)
  try rfl
end Go.Ab
namespace Go.Ab
open Go Go.RowKit Go.Proofs
set_option maxRecDepth 100000
set_option maxHeartbeats 16000000
end Go.Ab
namespace Go.Ab
open Go Go.RowKit Go.Proofs
open Go.Proofs.YtapnigckcnknoaaDoor
set_option maxRecDepth 4000
mutual
theorem bulk_le {H : Type} : ∀ d : DataW H, bulk d ≤ Rows.uptoBulk d
  | .lit l => by cases l <;> simp [bulk, Rows.uptoBulk]
  | .nil => by simp [bulk, Rows.uptoBulk]
  | .ptr d => by have := bulk_le d; simp only [bulk, Rows.uptoBulk]; omega
  | .slice a b => by have := bulkAll_le a; have := bulkAll_le b; simp only [bulk, Rows.uptoBulk]; omega
  | .agg a => by have := bulkAll_le a; simp only [bulk, Rows.uptoBulk]; omega
  | .iface _ d => by have := bulk_le d; simp only [bulk, Rows.uptoBulk]; omega
  | .map es => by simp [bulk, Rows.uptoBulk]
  | .held _ => by simp [bulk, Rows.uptoBulk]
theorem bulkAll_le {H : Type} : ∀ l : List (DataW H), bulkAll l ≤ Rows.uptoBulkAll l
  | [] => by simp [bulkAll, Rows.uptoBulkAll]
  | d :: r => by have := bulk_le d; have := bulkAll_le r; simp only [bulkAll, Rows.uptoBulkAll]; omega
end
theorem trodAll_len {H : Type} {enc : TypeId × Value → H} {P : Program} {W : World} : ∀ (ts : List TypeId) (vs : List Value) (ds : List (DataW H)) (ps : List MemPlace), DataW.TrodAll enc P W 0 (fun _ => true) true ts vs ds ps → ds.length = ts.length
  | [], vs, ds, ps, h => by
    obtain ⟨rfl, rfl, rfl⟩ := ChangeShapes.trodAll_nil h
    rfl
  | t :: ts, vs, ds, ps, h => by
    obtain ⟨v, vs', d, ds', p, q, rfl, rfl, rfl, h1, h2⟩ := ChangeShapes.trodAll_cons h
    simp [trodAll_len ts vs' ds' q h2]
theorem list_choose {α β γ : Type} {f : α → γ} {g : β → γ} : ∀ (ls : List α), (∀ c ∈ ls, ∃ x, f c = g x) → ∃ l : List β, ls.map f = l.map g ∧ l.length = ls.length
  | [], _ => ⟨[], rfl, rfl⟩
  | c :: ls, h => by
    obtain ⟨x, hx⟩ := h c List.mem_cons_self
    obtain ⟨l, h1, h2⟩ := list_choose ls fun c hc => h c (List.mem_cons_of_mem _ hc)
    exact ⟨x :: l, by simp [hx, h1], by simp [h2]⟩
theorem laid07 : laidOutB Tryd.prog = true := by kernel_rfl
theorem own07 : ownKnob Tryd.prog.godebug = none := by kernel_rfl
def accCells : Array Value := #[.int .u8 128, .int .u8 191, .int .u8 160, .int .u8 191, .int .u8 128, .int .u8 159, .int .u8 144, .int .u8 191, .int .u8 128, .int .u8 143, .int .u8 0, .int .u8 0, .int .u8 0, .int .u8 0, .int .u8 0, .int .u8 0, .int .u8 0, .int .u8 0, .int .u8 0, .int .u8 0, .int .u8 0, .int .u8 0, .int .u8 0, .int .u8 0, .int .u8 0, .int .u8 0, .int .u8 0, .int .u8 0, .int .u8 0, .int .u8 0, .int .u8 0, .int .u8 0]
def firstCells : Array Value := (Go.Pinned.utf8FirstZ.map fun n : Nat => Value.int .u8 (n : Int)).toArray
def layCells (cs : Array Value) : Go.Obj → Go.Obj
  | .cells _ t frozen => .cells cs t frozen
  | o => o
noncomputable def laidWorld (os : Os) : World :=
  { World.holding Tryd.prog os ⟨#[], #[], []⟩ with heap := ((World.holding Tryd.prog os ⟨#[], #[], []⟩).heap.modify 1 (layCells firstCells)).modify 2 (layCells accCells) }
def RT (ty : Ty) (n : Nat) (d : D) : Prop := ∃ cs, HasTy n ty cs ∧ d = ty.pack cs
theorem u8_wf {x : Int} (h : (Lit.int .u8 x).wf = true) : ∃ b : UInt8, x = (b.toNat : Int) := by
  simp only [Lit.wf, Bool.and_eq_true, decide_eq_true_eq, IntKind.min, IntKind.max] at h
  have h1 : 0 ≤ x ∧ x ≤ 255 := by
    refine ⟨?_, ?_⟩ <;> simp_all [IntKind.signed, IntKind.bits] <;> omega
  refine ⟨UInt8.ofNat x.toNat, ?_⟩
  rw [UInt8.toNat_ofNat']
  omega
theorem rt_u8 {n : Nat} {d : D} (h : RT (.int .u8) n d) : ∃ b : UInt8, d = .int .u8 b.toNat := by
  obtain ⟨cs, ⟨x, hw, rfl⟩, rfl⟩ := h
  obtain ⟨b, rfl⟩ := u8_wf hw
  exact ⟨b, rfl⟩
theorem rt_u8s {n : Nat} {d : D} (h : RT (.slice (.int .u8)) n d) : ∃ l : List UInt8, l.length ≤ n ∧ d = .list (l.map fun b => .int .u8 b.toNat) := by
  obtain ⟨cs, ⟨ls, hl, hm, rfl⟩, rfl⟩ := h
  obtain ⟨l, e, k⟩ := list_choose (f := (Ty.int .u8).pack) (g := fun b : UInt8 => D.int .u8 b.toNat) ls fun c hc => by
    obtain ⟨x, hw, rfl⟩ := hm c hc
    obtain ⟨b, rfl⟩ := u8_wf hw
    exact ⟨b, rfl⟩
  exact ⟨l, by omega, by show D.list (ls.map (Ty.int .u8).pack) = _; rw [e]⟩
end Go.Ab
namespace Go.Ab
open Go Go.RowKit Go.Proofs
set_option maxRecDepth 4000
end Go.Ab
namespace Go.Ab
open Go Go.RowKit Go.Proofs
set_option maxRecDepth 4000
structure ReplOK (fs : List Fl) (m : Mc) (l : List Wd) (i : Nat) (a : List (List Wd)) (r : List Wd) (b : List Tk) : Prop where
  args : argsE m (l.drop (i + 1)) = ((a, r), 0)
  body : bodyB fs m.body = (b, 0)
end Go.Ab
namespace Go.Ab
open Go Go.RowKit Go.Proofs
set_option maxRecDepth 4000
end Go.Ab
namespace Go.Ab
open Go Go.RowKit Go.Proofs
set_option maxRecDepth 4000
theorem split_lines : ∀ (r : List Bs) (w : Bs), (∀ x ∈ w :: r, ∀ b ∈ x, b ≠ 10) → splitB 10 (w ++ joinT r) = w :: r
  | [], w, h => by
    have key2 : ∀ w : Bs, (∀ b ∈ w, b ≠ 10) → splitB 10 w = [w] := by
      intro w
      induction w with
      | nil => intro _; rfl
      | cons x r ih =>
        intro hb
        have hx : (x == 10) = false := by simpa using hb x (by simp)
        rw [splitB, hx, ih (fun b k => hb b (by simp [k]))]
        rfl
    rw [joinT, List.append_nil]
    exact key2 w (h w (by simp))
  | v :: r, w, h => by
    have ih := split_lines r v (fun x hx => h x (by simp only [List.mem_cons] at hx ⊢; exact .inr hx))
    rw [joinT]
    have key : ∀ w : Bs, (∀ b ∈ w, b ≠ 10) → splitB 10 (w ++ ([10] ++ v ++ joinT r)) = w :: splitB 10 (v ++ joinT r) := by
      intro w
      induction w with
      | nil => intro _; rfl
      | cons x s ih2 =>
        intro hb
        have hx : (x == 10) = false := by simpa using hb x (by simp)
        rw [List.cons_append, splitB, hx, ih2 (fun b k => hb b (by simp [k]))]
        rfl
    rw [key w (h w (by simp)), ih]
end Go.Ab
namespace Go.Ab
open Go Go.RowKit Go.Proofs
set_option maxRecDepth 4000
def nmO (i : Nat) : Bs := [109, UInt8.ofNat (97 + i)]
def pQ : Bs := [112, 47, 113]
def unO (i : Nat) : Sp := (pQ, (i : Int), (i : Int) + 1)
def mcO (i : Nat) : Mc := ⟨nmO i, [], unO i⟩
def nxO (l : List UInt8) (i : Nat) : Nat := (l.getD i 0).toNat % l.length
def rowsO (l : List UInt8) : List Bs := (List.range l.length).map fun i => nmO (nxO l i)
def joinW : List Bs → Bs
  | [] => []
  | w :: r => w ++ joinT r
def dataO (l : List UInt8) : Bs := joinW (rowsO l)
def usO (l : List UInt8) : List Mc := (List.range l.length).map mcO
theorem nx_lt {l : List UInt8} (h : 0 < l.length) (i : Nat) : nxO l i < l.length := Nat.mod_lt _ h
theorem nmO_inj {i j : Nat} (hi : i < 20) (hj : j < 20) (h : nmO i = nmO j) : i = j := by
  unfold nmO at h
  simp only [List.cons.injEq, and_true, true_and] at h
  have := congrArg UInt8.toNat h
  rw [UInt8.toNat_ofNat', UInt8.toNat_ofNat'] at this
  omega
theorem nmO_ten {i : Nat} (hi : i < 20) : ∀ b ∈ nmO i, b ≠ 10 := by
  intro b hb
  unfold nmO at hb
  simp only [List.mem_cons, List.not_mem_nil, or_false] at hb
  rcases hb with rfl | rfl
  · decide
  · intro h
    have := congrArg UInt8.toNat h
    rw [UInt8.toNat_ofNat'] at this
    have : (10 : UInt8).toNat = 10 := rfl
    omega
theorem toksO : ∀ i, i < 20 → toksB (nmO i) = ([(1, nmO i)], 0) := by decide +kernel
theorem validO : ∀ i, i < 20 → validB 1 (nmO i) = true := by decide +kernel
theorem linesO {l : List UInt8} (h : 0 < l.length) (h2 : l.length ≤ 20) : linesE (dataO l) = (rowsO l, 0) := by
  have hm : ∀ w ∈ rowsO l, (∀ b ∈ w, b ≠ 10) ∧ w.length ≤ 2 := fun w hw => by
    obtain ⟨i, hi, rfl⟩ := List.mem_map.1 hw
    exact ⟨nmO_ten (by have := nx_lt h i; omega), Nat.le_refl _⟩
  have hl : (rowsO l).length = l.length := by unfold rowsO; simp
  unfold dataO
  cases hr : rowsO l with
  | nil => rw [hr] at hl; simp at hl; omega
  | cons w r =>
    rw [hr] at hm hl
    have hsp := split_lines r w (fun x hx => (hm x hx).1)
    have hb := joinT_bd 2 r (fun x hx => (hm x (by simp [hx])).2)
    have hw := (hm w (by simp)).2
    simp only [List.length_cons] at hl
    have hlen : (w ++ joinT r).length ≤ 1000 := by rw [List.length_append]; omega
    unfold linesE joinW
    rw [hsp, if_neg (by simp only [decide_eq_true_eq]; omega), if_neg (by simp only [decide_eq_true_eq, List.length_cons]; omega)]
theorem bodyO {l : List UInt8} (h : 0 < l.length) (h2 : l.length ≤ 20) {i : Nat} (hi : i < l.length) : bodyB [(pQ, dataO l)] (unO i) = ([(1, nmO (nxO l i))], 0) := by
  have hf : findF [(pQ, dataO l)] pQ = (dataO l, true) := by
    unfold findF
    simp
  have hl : (rowsO l).length = l.length := by unfold rowsO; simp
  have hd : ((rowsO l).drop i).take (i + 1 - i) = [nmO (nxO l i)] := by
    rw [List.drop_eq_getElem_cons (by omega), Nat.add_sub_cancel_left]
    simp [rowsO]
  have ht := toksO (nxO l i) (by have := nx_lt h i; omega)
  unfold bodyB
  rw [show (unO i).1 = pQ from rfl, hf]
  dsimp only
  rw [linesO h h2]
  simp only [beq_self_eq_true, if_true]
  unfold bodyR
  rw [if_neg (by
    unfold unO
    simp only [Bool.or_eq_true, decide_eq_true_eq, not_or, gt_iff_lt, Int.not_lt, hl]
    omega)]
  have e1 : (unO i).2.1.toNat = i := by unfold unO; simp
  have e2 : (unO i).2.2.toNat = i + 1 := by unfold unO; dsimp only; omega
  rw [e1, e2, hd]
  unfold bodyT
  have e3 : tokRow [nmO (nxO l i)] [] = ([(1, nmO (nxO l i))], 0) := by
    rw [tokRow, ht]
    rfl
  rw [e3]
  rfl
theorem meantO {l : List UInt8} (h2 : l.length ≤ 20) {a : Nat} (ha : a < l.length) (h : List Bs) : meantB (usO l) ((1, nmO a), h) = if h.contains (nmO a) then none else some (mcO a) := by
  unfold meantB
  by_cases hc : h.contains (nmO a) = true
  · rw [if_pos hc, if_pos (by
      dsimp only
      rw [hc]
      rfl)]
  · have hc2 : h.contains (nmO a) = false := by simpa using hc
    rw [if_neg hc, if_neg (by
      dsimp only
      rw [hc2]
      decide)]
    unfold usO
    rw [List.find?_map]
    have : (List.range l.length).find? ((fun m : Mc => m.name == nmO a) ∘ mcO) = some a := by
      rw [List.find?_range_eq_some]
      refine ⟨by simp [mcO], by simpa using ha, fun j hj => ?_⟩
      simp only [Function.comp_apply, mcO, Bool.not_eq_true', beq_eq_false_iff_ne]
      intro e
      have := nmO_inj (by omega) (by omega) e
      omega
    rw [this]
    rfl
def chO (l : List UInt8) : Nat → Nat → List Nat → List Nat × Nat
  | 0, a, S => (S, a)
  | k + 1, a, S => if S.contains a then (S, a) else chO l k (nxO l a) (S ++ [a])
theorem loop_stop {fs : List Fl} {us : List Mc} {w : Wd} (h : meantB us w = none) (k : Nat) (rd : List Sp) : loopG fs us k [w] rd = (([w], rd), 0) := by
  rw [loopG_eq, findG_none.2 (by simpa using h)]
theorem replO {l : List UInt8} (h : 0 < l.length) (h2 : l.length ≤ 20) {a : Nat} (ha : a < l.length) (hd : List Bs) : replG [(pQ, dataO l)] (mcO a) [((1, nmO a), hd)] 0 = ([((1, nmO (nxO l a)), bothB [nmO a] hd)], 0) := by
  have hb := bodyO h h2 ha
  unfold replG
  rw [show (mcO a).body = unO a from rfl, hb]
  rfl
theorem loop_once {l : List UInt8} (h : 0 < l.length) (h2 : l.length ≤ 20) : ∀ (k a : Nat) (S : List Nat) (hd : List Bs) (rd : List Sp) (K : Nat), a < l.length → (∀ y, y < l.length → (nmO y ∈ hd ↔ y ∈ S)) → k ≤ K → (chO l k a S).2 ∈ (chO l k a S).1 →
    ∃ T hd', (chO l k a S).1 = S ++ T ∧ loopG [(pQ, dataO l)] (usO l) K [((1, nmO a), hd)] rd = (([((1, nmO (chO l k a S).2), hd')], rd ++ T.map unO), 0)
  | 0, a, S, hd, rd, K, ha, hh, hk, hm => by
    refine ⟨[], hd, by simp [chO], ?_⟩
    rw [loop_stop]
    · simp [chO]
    · rw [meantO h2 ha, if_pos (by simpa using (hh a ha).2 hm)]
  | k + 1, a, S, hd, rd, K, ha, hh, hk, hm => by
    rw [chO] at hm ⊢
    by_cases hS : S.contains a = true
    · rw [if_pos hS] at hm ⊢
      refine ⟨[], hd, by simp, ?_⟩
      rw [loop_stop]
      · simp
      · rw [meantO h2 ha, if_pos (by simpa using (hh a ha).2 hm)]
    · rw [if_neg hS] at hm ⊢
      have hS2 : a ∉ S := by simpa using hS
      obtain ⟨K, rfl⟩ : ∃ K', K = K' + 1 := ⟨K - 1, by omega⟩
      have hnc : hd.contains (nmO a) = false := by
        rw [Bool.eq_false_iff]
        intro hc
        exact hS2 ((hh a ha).1 (by simpa using hc))
      have hf : findG (usO l) [((1, nmO a), hd)] = some (0, mcO a) := by
        rw [findG, meantO h2 ha, hnc]
        rfl
      have hb : ∀ s, s ∈ bothB [nmO a] hd ↔ s ∈ [nmO a] ∨ s ∈ hd := (both_ok hd [nmO a] (by simp)).2
      obtain ⟨T, hd', e1, e2⟩ := loop_once h h2 k (nxO l a) (S ++ [a]) (bothB [nmO a] hd) (rd ++ [unO a]) K (nx_lt h a) (fun y hy => by
        rw [hb, List.mem_singleton, List.mem_append, List.mem_singleton, hh y hy, or_comm]
        refine or_congr Iff.rfl ⟨fun e => nmO_inj (by omega) (by omega) e, fun e => by rw [e]⟩) (by omega) hm
      refine ⟨a :: T, hd', by rw [e1]; simp, ?_⟩
      rw [loopG_eq, hf]
      dsimp only
      rw [replO h h2 ha]
      simp only [beq_self_eq_true, if_true]
      rw [show (mcO a).body = unO a from rfl, e2]
      simp
theorem line_once {l : List UInt8} (h : 0 < l.length) (h2 : l.length ≤ 20) {a k : Nat} (ha : a < l.length) (hk : k ≤ 256) {S : List Nat} {b : Nat} (hc : chO l k a [] = (S, b)) (hm : b ∈ S) :
    lineG [(pQ, dataO l)] (usO l) [(1, nmO a)] = (([(1, nmO b)], setG (S.map unO)), 0) := by
  obtain ⟨T, hd', e1, e2⟩ := loop_once h h2 k a [] [] [] 256 ha (fun y _ => by simp) hk (by rw [hc]; exact hm)
  rw [hc] at e1 e2
  dsimp only at e1 e2
  rw [List.nil_append] at e1
  subst e1
  rw [lineG_eq, if_neg (by simp), if_pos (by simp [validO a (by omega)])]
  have hw : w0 [((1 : Int), nmO a)] = [((1, nmO a), [])] := rfl
  rw [hw, e2]
  simp
def sumI : List Sp → Int
  | [] => 0
  | s :: r => (s.2.2 - s.2.1) + sumI r
theorem sumI_app : ∀ a b : List Sp, sumI (a ++ b) = sumI a + sumI b
  | [], b => by simp [sumI]
  | s :: a, b => by
    rw [List.cons_append, sumI, sumI, sumI_app a b]
    omega
theorem addN_sum : ∀ (l : List Sq) (x : Sq), Canon l → x.2.1 < x.2.2 → (∀ s ∈ l, s.1 = x.1 → s.2.2 ≤ x.2.1 ∨ x.2.2 ≤ s.2.1) → sumI (addN x l) = sumI l + (x.2.2 - x.2.1)
  | [], x, _, _, _ => by simp [addN, sumI]
  | s :: r, x, hl, hx, hd => by
    have hs := hl.ne s (by simp)
    have hsr := (List.pairwise_cons.1 hl.pw).1
    rw [addN]
    cases h1 : tch s x
    case true =>
      simp only [if_true]
      have ht := (tch_iff s x).1 h1
      have hds := hd s (by simp) ht.1
      have hmx : (mrg s x).2.2 - (mrg s x).2.1 = (x.2.2 - x.2.1) + (s.2.2 - s.2.1) := by
        unfold mrg
        dsimp only
        omega
      rw [addN_sum r (mrg s x) hl.tail (by unfold mrg; dsimp only; omega) (fun t ht2 hp => by
        have h3 := hd t (by simp [ht2]) hp
        have h4 := hl.ne t (by simp [ht2])
        have h5 : s.2.2 < t.2.1 := by
          rcases hsr t ht2 with q | ⟨_, q⟩
          · have : t.1 = s.1 := hp.trans ht.1.symm
            rw [this] at q
            exact absurd q (bs_irr _)
          · exact q
        unfold mrg
        dsimp only
        omega), hmx, sumI]
      omega
    case false =>
      cases h2 : aft s x
      case true =>
        simp only [Bool.false_eq_true, if_false, if_true]
        have hxs := (aft_iff s x).1 h2
        rw [addD_eq x r (fun t ht => hxs.trans (hsr t ht) hs), sumI]
        omega
      case false =>
        simp only [Bool.false_eq_true, if_false]
        rw [sumI, addN_sum r x hl.tail hx (fun t ht hp => hd t (by simp [ht]) hp), sumI]
        omega
theorem sum_units : ∀ (n : Nat) (S : List Nat), S.length = n → S.Nodup → sumI (setG (S.map unO)) = S.length
  | 0, S, h, _ => by
    rw [List.length_eq_zero_iff.1 h]
    rfl
  | n + 1, S, h, hn => by
    have hne : S ≠ [] := fun e => by rw [e] at h; simp at h
    obtain ⟨T, a, rfl⟩ : ∃ T a, S = T ++ [a] := ⟨S.dropLast, S.getLast hne, (List.dropLast_concat_getLast hne).symm⟩
    have hl : T.length = n := by simpa using h
    have h1 : T.Nodup := hn.sublist (List.sublist_append_left _ _)
    have ha : a ∉ T := fun k => by
      rw [List.nodup_append] at hn
      exact hn.2.2 a k a (by simp) rfl
    have ih := sum_units n T hl h1
    obtain ⟨c1, c2⟩ := setG_ok (T.map unO)
    have hf : full (unO a) = true := by
      unfold full unO
      simp only [decide_eq_true_eq]
      omega
    rw [List.map_append, List.map_cons, List.map_nil, setG_snoc, if_pos hf, addN_sum _ _ c1 (by unfold unO; dsimp only; omega) (fun s hs hp => ?_), ih]
    · unfold unO
      simp
      omega
    · by_cases hov : s.2.1 ≤ (a : Int) ∧ (a : Int) < s.2.2
      · exfalso
        have hc : Cov (setG (T.map unO)) s.1 a := ⟨s, hs, rfl, hov.1, hov.2⟩
        obtain ⟨t, ht, _, h4, h5⟩ := (c2 _ _).1 hc
        obtain ⟨y, hy, rfl⟩ := List.mem_map.1 ht
        unfold unO at h4 h5
        dsimp only at h4 h5
        have : a = y := by omega
        exact ha (this ▸ hy)
      · have := c1.ne s hs
        unfold unO
        dsimp only
        omega
theorem sum_take {l : List Sp} {i : Nat} (hi : i < l.length) : sumI (l.take (i + 1)) = sumI (l.take i) + (l[i].2.2 - l[i].2.1) := by
  rw [List.take_add_one, List.getElem?_eq_getElem hi, sumI_app]
  simp [sumI]
theorem sum_le {l : List Sp} (h : ∀ s ∈ l, s.2.1 < s.2.2) (i : Nat) : 0 ≤ sumI (l.take i) ∧ sumI (l.take i) ≤ sumI l := by
  have pos : ∀ l : List Sp, (∀ s ∈ l, s.2.1 < s.2.2) → 0 ≤ sumI l := by
    intro l
    induction l with
    | nil => intro _; exact Int.le_refl _
    | cons s r ih =>
      intro h
      have := ih (fun t ht => h t (by simp [ht]))
      have := h s (by simp)
      rw [sumI]
      omega
  have e := sumI_app (l.take i) (l.drop i)
  rw [List.take_append_drop] at e
  have h1 := pos (l.take i) (fun s hs => h s (List.mem_of_mem_take hs))
  have h2 := pos (l.drop i) (fun s hs => h s (List.mem_of_mem_drop hs))
  omega
end Go.Ab
