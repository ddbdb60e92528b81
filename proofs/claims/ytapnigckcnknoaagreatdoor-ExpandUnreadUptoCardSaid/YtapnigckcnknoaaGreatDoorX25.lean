/-
  One text of the proof (own work): contracts of functions of the program, by the abstract machine.
-/
import Derived.Test.YtapnigckcnknoaaGreatDoorX12
import Derived.Test.YtapnigckcnknoaaGreatDoorX24
import Derived.Test.YtapnigckcnknoaaGreatDoorX22
import Derived.Test.YtapnigckcnknoaaGreatDoorX23
import Derived.Test.YtapnigckcnknoaaGreatDoorX20
import Derived.Test.YtapnigckcnknoaaGreatDoorX19
import Derived.Test.YtapnigckcnknoaaGreatDoorX18
import Derived.Test.YtapnigckcnknoaaGreatDoorX11
set_option linter.unusedVariables false
set_option linter.unusedSimpArgs false
namespace Go.Ab
open Go Go.RowKit Go.Proofs
set_option maxRecDepth 10000
set_option maxHeartbeats 40000000
def eLR (p : (List Tk × List Sp) × Int) : D := .tup [.list (p.1.1.map eTk), .list (p.1.2.map eSp), i64 p.2]
def w0 (l : List Tk) : List Wd := l.map fun t => (t, [])
theorem lineG_eq (fs : List Fl) (us : List Mc) (l : List Tk) : lineG fs us l = if decide ((l.length : Int) > 256) then (([], []), 10) else if l.all (fun t => validB t.1 t.2) then (((loopG fs us 256 (w0 l) []).1.1.map (·.1), setG (loopG fs us 256 (w0 l) []).1.2), (loopG fs us 256 (w0 l) []).2) else (([], []), 1) := by
  unfold lineG printE w0
  split
  · rfl
  · split <;> rfl
end Go.Ab
namespace Go.Ab
open Go Go.RowKit Go.Proofs
set_option maxRecDepth 10000
set_option maxHeartbeats 40000000
theorem HidOK.wd {us : List Mc} (h1 : us.length ≤ 1000000) (h2 : ∀ m ∈ us, m.name.length ≤ 1099511627776) {w : Wd} (h : HidOK us w.2) : WdOK w :=
  ⟨by have := h.len; omega, fun s hs => by
    obtain ⟨m, hm, rfl⟩ := List.mem_map.1 (h.mem s hs)
    exact h2 m hm⟩
noncomputable def g_lineP7 : List D → Option D := encSpec (fun x : (List Fl) × (List Mc) × (List Tk) => [.list (x.1.map eFl), eU x.2.1, .list (x.2.2.map eTk)]) (fun x : (List Fl) × (List Mc) × (List Tk) => ((x.1.length ≤ 1099511627776 ∧ ∀ f ∈ x.1, f.2.length ≤ 1000000000) ∧ (x.2.1.length ≤ 1000000 ∧ ∀ m ∈ x.2.1, m.params.length ≤ 1000000 ∧ m.name.length ≤ 1099511627776)) ∧ (x.2.2.length ≤ 1099511627776 ∧ ∀ t ∈ x.2.2, t.2.length ≤ 1000000000)) (fun x : (List Fl) × (List Mc) × (List Tk) => eLR (lineG x.1 x.2.1 x.2.2))
theorem g_lineP7_eq {fs : List Fl} {us : List Mc} {l : List Tk} (hd : ((fs.length ≤ 1099511627776 ∧ ∀ f ∈ fs, f.2.length ≤ 1000000000) ∧ (us.length ≤ 1000000 ∧ ∀ m ∈ us, m.params.length ≤ 1000000 ∧ m.name.length ≤ 1099511627776)) ∧ (l.length ≤ 1099511627776 ∧ ∀ t ∈ l, t.2.length ≤ 1000000000)) : g_lineP7 [.list (fs.map eFl), eU us, .list (l.map eTk)] = some (eLR (lineG fs us l)) := encSpec_eq (x := (fs, us, l)) hd fun y hy => by
    obtain ⟨y0, y1, y2⟩ := y; simp only [List.cons.injEq, and_true, true_and, D.str.injEq, D.int.injEq, D.list.injEq, D.bool.injEq, D.agg.injEq, D.clo.injEq, Int.natCast_inj, inj_ie, D.ref.injEq, eU_e, eWd_e, eWd_ie, eTk_ie, eTk_e, eFl_ie, eSp_ie, eSp_e, eMc_e, eMc_ie, hid_e] at hy
    (try obtain ⟨rfl, rfl, rfl⟩ := hy)
    (try subst_vars)
    rfl
theorem f_lineP7_ok : PureOK Tryz.prog 16 false g_lineP7 := by
  have hΓ := Γp f_tprint_ok (Γp f_findP_ok (Γp f_replP_ok (Γp f_setP_ok (Γn))))
  refine pure_enc (n := 85) (rs := [.tmp 6, .tmp 7, .tmp 8]) Tryz.func16 (by kernel_rfl) rfl (by kernel_rfl) (by kernel_rfl) ?_
  rintro ⟨fs, us, l⟩ hd
  (try dsimp only at hd ⊢)
  refine ⟨fun h => (by cases h), fun k hz0 => ?_⟩
  obtain ⟨⟨⟨d1, d2⟩, d3, d4⟩, d5, d6⟩ := hd
  have hL : lineG fs us l = if (printE l).2 == 0 then (((loopG fs us 256 (w0 l) []).1.1.map (·.1), setG (loopG fs us 256 (w0 l) []).1.2), (loopG fs us 256 (w0 l) []).2) else (([], []), (printE l).2) := rfl
  rw [eU_eq]
  have e1 := g_tprint_eq (l := l) ⟨d5, d6⟩
  have hl0 : (printE l).2 = 0 → l.length ≤ 256 := fun h => by
    unfold printE at h
    split at h
    · cases h
    · rename_i h2
      simp only [decide_eq_true_eq] at h2
      omega
  generalize printE l = P at *
  obtain ⟨pt, pe⟩ := P
  dsimp only at hL e1 hl0
  replace e1 : g_tprint [.list (l.map eTk)] = some (.tup [.str pt, .int .i64 pe]) := e1
  rw [start_frame (by simp)]; simp only [enumV, go_sem, emptyH]
  by_cases hpe : pe = 0
  case neg =>
    have hpe2 : (pe != 0) = true := by simpa using hpe
    have hpe3 : (pe == 0) = false := by simpa using hpe
    rw [hpe3] at hL
    simp only [Bool.false_eq_true, if_false] at hL
    rw [hL]
    repeat (first
      | (apply axJ; (focus ((with_reducible constructor) <;> rfl)))
      | (apply awT mixedOK hΓ (by kernel_rfl); (simp (disch := omega) only [go_sem, ↓reduceIte, dk, ↓lk, Int.reduceBEq, Int.reduceBNe, Bool.true_bne, Bool.false_bne, Bool.not_true, Bool.not_false, e1, hpe2] <;> with_reducible rfl))
      | ((first | apply awR hΓ | apply awG | apply awH mixedOK hΓ rfl (by kernel_rfl) | apply ovE rfl); (simp (disch := omega) only [go_sem, ↓reduceIte, dk, ↓lk, Int.reduceBEq, Int.reduceBNe, Bool.true_bne, Bool.false_bne, Bool.not_true, Bool.not_false, e1, hpe2] <;> with_reducible rfl); exact trivial)
      | rfl)
    try rfl
  subst hpe
  have hl1 := hl0 rfl
  simp only [beq_self_eq_true, if_true] at hL
  repeat (first
    | (apply axJ; (focus ((with_reducible constructor) <;> rfl)))
    | (apply awT mixedOK hΓ (by kernel_rfl); (simp (disch := omega) only [go_sem, ↓reduceIte, dk, ↓lk, Int.reduceBEq, Int.reduceBNe, Bool.true_bne, Bool.false_bne, Bool.not_true, Bool.not_false, e1] <;> with_reducible rfl))
    | ((first | apply awR hΓ | apply awG | apply awH mixedOK hΓ rfl (by kernel_rfl) | apply ovE rfl); (simp (disch := omega) only [go_sem, ↓reduceIte, dk, ↓lk, Int.reduceBEq, Int.reduceBNe, Bool.true_bne, Bool.false_bne, Bool.not_true, Bool.not_false, e1] <;> with_reducible rfl); exact trivial)
    | rfl)
  refine awp_weak (Weak.nilrowF (i := 11) 79 (sz := 3) (by omega) (by omega) rfl) ?_
  refine awp_loop_at (X := Nat) (fun i => (frame 85 [(0, .data (.list (fs.map eFl))), (4, .ptr 0 0), (11, .row 17 i), (30, .data (.list (l.map eTk))), (31, .data (i64 l.length)), (32, .data (i64 i))])) (fun i => [(0, .box [.data (.str []), .data (.list []), .data (.list (us.map eMc)), .data (.list []), .data (.list []), .data (.list [])]), (17, .row 79 3 (((w0 l).take i).map eWd))]) 18
    (fun i => i ≤ l.length) (fun i => l.length - i) 0 (Nat.zero_le _) (Weak.v (by (simp [ConvF, lookV, Conv, ints, upd]; done)) (by (simp (disch := omega) only [TabSub, look, if_pos, if_neg, Obj.refsOK, refsOKs, AV.refsOK, decide_eq_true_eq, Bool.and_true, Bool.and_self, upd] ) <;> ((repeat' apply And.intro) <;> first | exact True.intro | omega | (simp; done) | rfl))) ?_
  rintro i hi
  (try dsimp only at hi ⊢)
  by_cases hi2 : i < l.length
  · have hst : ((w0 l).take (i + 1)).map eWd = ((w0 l).take i).map eWd ++ [.agg [i64 l[i].1, .str l[i].2, .map [] []]] := by
      unfold w0
      rw [List.take_add_one, List.getElem?_map, List.getElem?_eq_getElem hi2, List.map_append]
      rfl
    have hll : (((w0 l).take i).map eWd).length = i := by simp [w0]; omega
    generalize ((w0 l).take i).map eWd = R at *
    generalize hy : l[i] = y at *
    obtain ⟨y1, y2⟩ := y
    dsimp only at hst
    repeat (first
      | (apply axJ; (focus ((with_reducible constructor) <;> rfl)))
      | (apply awT mixedOK hΓ (by kernel_rfl); (simp (disch := omega) only [go_sem, ↓reduceIte, dk, ↓lk, Int.reduceBEq, Int.reduceBNe, Bool.true_bne, Bool.false_bne, Bool.not_true, Bool.not_false, ↓ty_build79, hy, hll] <;> with_reducible rfl))
      | ((first | apply awR hΓ | apply awG | apply awH mixedOK hΓ rfl (by kernel_rfl) | apply ovE rfl); (simp (disch := omega) only [go_sem, ↓reduceIte, dk, ↓lk, Int.reduceBEq, Int.reduceBNe, Bool.true_bne, Bool.false_bne, Bool.not_true, Bool.not_false, ↓ty_build79, hy, hll] <;> with_reducible rfl); exact trivial)
      | rfl)
    exact ⟨i + 1, by omega, by omega, by rw [hst]; exact Weak.w⟩
  have hi3 : i = l.length := by omega
  subst hi3
  have hwl0 : (w0 l).length = l.length := by simp [w0]
  rw [← hwl0, List.take_length]
  repeat (first
    | (apply axJ; (focus ((with_reducible constructor) <;> rfl)))
    | (apply awT mixedOK hΓ (by kernel_rfl); (simp (disch := omega) only [go_sem, ↓reduceIte, dk, ↓lk, Int.reduceBEq, Int.reduceBNe, Bool.true_bne, Bool.false_bne, Bool.not_true, Bool.not_false] <;> with_reducible rfl))
    | ((first | apply awR hΓ | apply awG | apply awH mixedOK hΓ rfl (by kernel_rfl) | apply ovE rfl); (simp (disch := omega) only [go_sem, ↓reduceIte, dk, ↓lk, Int.reduceBEq, Int.reduceBNe, Bool.true_bne, Bool.false_bne, Bool.not_true, Bool.not_false] <;> with_reducible rfl); exact trivial)
    | rfl)
  refine awp_weak ((Weak.freeze (o := 17) rfl).trans (show Weak _ _ _ ((frame 85 [(0, .data (.list (fs.map eFl))), (4, .ptr 0 0), (11, .data (.list ((w0 l).map eWd))), (14, .nils), (15, .data (i64 ((0 : Nat) : Int)))])) ⟨[(0, .box [.data (.str []), .data (.list []), .data (.list (us.map eMc)), .data (.list []), .data (.list []), .data (.list [])])], 21⟩ from Weak.v (by (simp [ConvF, lookV, Conv, ints, upd, Heap.set, Heap.get, look]; done)) (by (simp (disch := omega) only [TabSub, look, if_pos, if_neg, Obj.refsOK, refsOKs, AV.refsOK, decide_eq_true_eq, Bool.and_true, Bool.and_self, upd, Heap.set, Heap.get, look] ) <;> ((repeat' apply And.intro) <;> first | exact True.intro | omega | (simp; done) | rfl)))) ?_
  refine awp_weak (Weak.nilrowF (i := 14) 26 (sz := 3) (by omega) (by omega) rfl) ?_
  refine awp_loop_at (X := List Wd × List Sp × Nat) (fun y => (frame 85 [(0, .data (.list (fs.map eFl))), (4, .ptr 0 0), (11, .data (.list (y.1.map eWd))), (14, .row 21 y.2.1.length), (15, .data (i64 y.2.2))])) (fun y => [(0, .box [.data (.str []), .data (.list []), .data (.list (us.map eMc)), .data (.list []), .data (.list []), .data (.list [])]), (21, .row 26 3 (y.2.1.map eSp))]) 22
    (fun y => loopG fs us 256 (w0 l) [] = loopG fs us (256 - y.2.2) y.1 y.2.1 ∧ (y.2.2 ≤ 256 ∧ y.1.length ≤ 256 ∧ y.2.1.length ≤ y.2.2) ∧ HidAll us y.1) (fun y => 256 - y.2.2) (w0 l, [], 0)
    ⟨rfl, ⟨Nat.zero_le _, by dsimp only; omega, Nat.zero_le _⟩, fun w hw => (by obtain ⟨t, _, rfl⟩ := List.mem_map.1 hw; exact ⟨by simp, fun s hs => by cases hs⟩)⟩ (Weak.v (by (simp [ConvF, lookV, Conv, ints, upd]; done)) (by (simp (disch := omega) only [TabSub, look, if_pos, if_neg, Obj.refsOK, refsOKs, AV.refsOK, decide_eq_true_eq, Bool.and_true, Bool.and_self, upd] ) <;> ((repeat' apply And.intro) <;> first | exact True.intro | omega | (simp; done) | rfl))) ?_
  rintro ⟨ws, rd, n⟩ ⟨hpre, ⟨hn, hwl, hrl⟩, hhid⟩
  (try dsimp only at hpre hn hwl hrl hhid ⊢)
  have e2 := g_findP_eq (us := us) (l := ws) ⟨by omega, by omega⟩
  rw [eU_eq] at e2
  rw [loopG_eq fs us (256 - n) ws rd] at hpre
  cases hf : findG us ws with
  | none =>
    rw [hf] at e2 hpre
    replace e2 : g_findP [.agg [.str [], .list [], .list (us.map eMc), .list [], .list [], .list []], .list (ws.map eWd)] = some (.tup [.agg [.str [], .list [], .str [], .int .i64 0, .int .i64 0], .int .i64 (-1)]) := e2
    dsimp only at hpre
    rw [hpre] at hL
    rw [hL]
    clear hpre
    have hlt : decide ((-1 : Int) < 0) = true := rfl
    have e4 := g_setP_eq (l := rd) (by omega)
    repeat (first
      | (apply axJ; (focus ((with_reducible constructor) <;> rfl)))
      | (apply awT mixedOK hΓ (by kernel_rfl); (simp (disch := omega) only [go_sem, ↓reduceIte, dk, ↓lk, Int.reduceBEq, Int.reduceBNe, Bool.true_bne, Bool.false_bne, Bool.not_true, Bool.not_false, e2, hlt] <;> with_reducible rfl))
      | ((first | apply awR hΓ | apply awG | apply awH mixedOK hΓ rfl (by kernel_rfl) | apply ovE rfl); (simp (disch := omega) only [go_sem, ↓reduceIte, dk, ↓lk, Int.reduceBEq, Int.reduceBNe, Bool.true_bne, Bool.false_bne, Bool.not_true, Bool.not_false, e2, hlt] <;> with_reducible rfl); exact trivial)
      | rfl)
    refine awp_weak (Weak.nilrowF (i := 19) 55 (sz := 2) (by omega) (by omega) rfl) ?_
    refine awp_loop_at (X := Nat) (fun i => (frame 85 [(14, .row 21 rd.length), (19, .row 37 i), (70, .data (.list (ws.map eWd))), (71, .data (i64 ws.length)), (72, .data (i64 i))])) (fun i => [(21, .row 26 3 (rd.map eSp)), (37, .row 55 2 (((ws.map (·.1)).take i).map eTk))]) 38
      (fun i => i ≤ ws.length) (fun i => ws.length - i) 0 (Nat.zero_le _) (Weak.v (by (simp [ConvF, lookV, Conv, ints, upd]; done)) (by (simp (disch := omega) only [TabSub, look, if_pos, if_neg, Obj.refsOK, refsOKs, AV.refsOK, decide_eq_true_eq, Bool.and_true, Bool.and_self, upd] ) <;> ((repeat' apply And.intro) <;> first | exact True.intro | omega | (simp; done) | rfl))) ?_
    rintro i hi
    (try dsimp only at hi ⊢)
    by_cases hi2 : i < ws.length
    · have hst : ((ws.map (·.1)).take (i + 1)).map eTk = ((ws.map (·.1)).take i).map eTk ++ [.agg [i64 ws[i].1.1, .str ws[i].1.2]] := by
        rw [List.take_add_one, List.getElem?_map, List.getElem?_eq_getElem hi2, List.map_append]
        rfl
      have hll : (((ws.map (·.1)).take i).map eTk).length = i := by simp; omega
      generalize ((ws.map (·.1)).take i).map eTk = R at *
      generalize hz : ws[i] = z at *
      obtain ⟨⟨z1, z2⟩, z3⟩ := z
      dsimp only at hst
      repeat (first
        | (apply axJ; (focus ((with_reducible constructor) <;> rfl)))
        | (apply awT mixedOK hΓ (by kernel_rfl); (simp (disch := omega) only [go_sem, ↓reduceIte, dk, ↓lk, Int.reduceBEq, Int.reduceBNe, Bool.true_bne, Bool.false_bne, Bool.not_true, Bool.not_false, hz, hll] <;> with_reducible rfl))
        | ((first | apply awR hΓ | apply awG | apply awH mixedOK hΓ rfl (by kernel_rfl) | apply ovE rfl); (simp (disch := omega) only [go_sem, ↓reduceIte, dk, ↓lk, Int.reduceBEq, Int.reduceBNe, Bool.true_bne, Bool.false_bne, Bool.not_true, Bool.not_false, hz, hll] <;> with_reducible rfl); exact trivial)
        | rfl)
      exact ⟨i + 1, by omega, by omega, by rw [hst]; exact Weak.w⟩
    have hi3 : i = ws.length := by omega
    subst hi3
    have hte : (ws.map (·.1)).take ws.length = ws.map (·.1) := List.take_of_length_le (by simp)
    rw [hte]
    unfold eLR
    repeat (first
      | (apply axJ; (focus ((with_reducible constructor) <;> rfl)))
      | (apply awT mixedOK hΓ (by kernel_rfl); (simp (disch := omega) only [go_sem, ↓reduceIte, dk, ↓lk, Int.reduceBEq, Int.reduceBNe, Bool.true_bne, Bool.false_bne, Bool.not_true, Bool.not_false, e4, List.length_map] <;> with_reducible rfl))
      | ((first | apply awR hΓ | apply awG | apply awH mixedOK hΓ rfl (by kernel_rfl) | apply ovE rfl); (simp (disch := omega) only [go_sem, ↓reduceIte, dk, ↓lk, Int.reduceBEq, Int.reduceBNe, Bool.true_bne, Bool.false_bne, Bool.not_true, Bool.not_false, e4, List.length_map] <;> with_reducible rfl); exact trivial)
      | rfl)
    try rfl
  | some q =>
    obtain ⟨i, m⟩ := q
    obtain ⟨hi, hme, _⟩ := findG_some hf
    have hmm := (meant_mem hme).1
    rw [hf] at e2 hpre
    dsimp only at hpre
    have hrl2 := repl_len (fs := fs) (m := m) (l := ws) (i := i)
    have hrh := repl_hid (fs := fs) (m := m) hmm hhid hi
    have e3 := g_replP_eq (fs := fs) (m := m) (l := ws) (n := i) ⟨⟨⟨d1, d2⟩, d4 m hmm⟩, ⟨hwl, hi⟩, fun w hw => (hhid w hw).wd d3 (fun m hm => (d4 m hm).2)⟩
    obtain ⟨mn, mp, m3, m4, m5⟩ := m
    generalize replG fs ⟨mn, mp, (m3, m4, m5)⟩ ws i = G at *
    obtain ⟨nw, er⟩ := G
    dsimp only at hpre hrl2 hrh
    replace e2 : g_findP [.agg [.str [], .list [], .list (us.map eMc), .list [], .list [], .list []], .list (ws.map eWd)] = some (.tup [.agg [.str mn, .list (mp.map .str), .str m3, .int .i64 m4, .int .i64 m5], .int .i64 (i : Int)]) := e2
    replace e3 : g_replP [.list (fs.map eFl), .agg [.str mn, .list (mp.map .str), .str m3, .int .i64 m4, .int .i64 m5], .list (ws.map eWd), .int .i64 (i : Int)] = some (.tup [.list (nw.map eWd), .int .i64 er]) := e3
    have hlt : decide ((i : Int) < 0) = false := decide_eq_false (by omega)
    by_cases hn2 : n = 256
    · subst hn2
      have hn3 : (((256 : Nat) : Int) == 256) = true := rfl
      simp only [Nat.sub_self] at hpre
      rw [hpre] at hL
      rw [hL]
      repeat (first
        | (apply axJ; (focus ((with_reducible constructor) <;> rfl)))
        | (apply awT mixedOK hΓ (by kernel_rfl); (simp (disch := omega) only [go_sem, ↓reduceIte, dk, ↓lk, Int.reduceBEq, Int.reduceBNe, Bool.true_bne, Bool.false_bne, Bool.not_true, Bool.not_false, e2, hlt, hn3] <;> with_reducible rfl))
        | ((first | apply awR hΓ | apply awG | apply awH mixedOK hΓ rfl (by kernel_rfl) | apply ovE rfl); (simp (disch := omega) only [go_sem, ↓reduceIte, dk, ↓lk, Int.reduceBEq, Int.reduceBNe, Bool.true_bne, Bool.false_bne, Bool.not_true, Bool.not_false, e2, hlt, hn3] <;> with_reducible rfl); exact trivial)
        | rfl)
      try rfl
    have hn3 : ((n : Int) == 256) = false := by rw [beq_eq_false_iff_ne]; omega
    obtain ⟨k, hk⟩ : ∃ k, 256 - n = k + 1 := ⟨256 - n - 1, by omega⟩
    rw [hk] at hpre
    dsimp only at hpre
    by_cases her : er = 0
    case neg =>
      have her2 : (er != 0) = true := by simpa using her
      have her3 : (er == 0) = false := by simpa using her
      rw [her3] at hpre
      simp only [Bool.false_eq_true, if_false] at hpre
      rw [hpre] at hL
      rw [hL]
      repeat (first
        | (apply axJ; (focus ((with_reducible constructor) <;> rfl)))
        | (apply awT mixedOK hΓ (by kernel_rfl); (simp (disch := omega) only [go_sem, ↓reduceIte, dk, ↓lk, Int.reduceBEq, Int.reduceBNe, Bool.true_bne, Bool.false_bne, Bool.not_true, Bool.not_false, e2, e3, hlt, hn3, her2] <;> with_reducible rfl))
        | ((first | apply awR hΓ | apply awG | apply awH mixedOK hΓ rfl (by kernel_rfl) | apply ovE rfl); (simp (disch := omega) only [go_sem, ↓reduceIte, dk, ↓lk, Int.reduceBEq, Int.reduceBNe, Bool.true_bne, Bool.false_bne, Bool.not_true, Bool.not_false, e2, e3, hlt, hn3, her2] <;> with_reducible rfl); exact trivial)
        | rfl)
      try rfl
    subst her
    simp only [beq_self_eq_true, if_true] at hpre
    have hk2 : 256 - (n + 1) = k := by omega
    have hmS : (rd ++ [(m3, m4, m5)]).map eSp = rd.map eSp ++ [.agg [.str m3, i64 m4, i64 m5]] := by rw [List.map_append]; rfl
    have hmL : (rd ++ [(m3, m4, m5)]).length = rd.length + 1 := by rw [List.length_append]; rfl
    repeat (first
      | (apply axJ; (focus ((with_reducible constructor) <;> rfl)))
      | (apply awT mixedOK hΓ (by kernel_rfl); (simp (disch := omega) only [go_sem, ↓reduceIte, dk, ↓lk, Int.reduceBEq, Int.reduceBNe, Bool.true_bne, Bool.false_bne, Bool.not_true, Bool.not_false, e2, e3, hlt, hn3] <;> with_reducible rfl))
      | ((first | apply awR hΓ | apply awG | apply awH mixedOK hΓ rfl (by kernel_rfl) | apply ovE rfl); (simp (disch := omega) only [go_sem, ↓reduceIte, dk, ↓lk, Int.reduceBEq, Int.reduceBNe, Bool.true_bne, Bool.false_bne, Bool.not_true, Bool.not_false, e2, e3, hlt, hn3] <;> with_reducible rfl); exact trivial)
      | rfl)
    exact ⟨(nw, rd ++ [(m3, m4, m5)], n + 1), ⟨by dsimp only; rw [hk2]; exact hpre, ⟨by dsimp only; omega, hrl2, by dsimp only; omega⟩, hrh⟩, by dsimp only; omega, by dsimp only; rw [hmS, hmL]; exact Weak.w⟩
end Go.Ab
namespace Go.Ab
open Go Go.RowKit Go.Proofs
set_option maxRecDepth 100000
set_option maxHeartbeats 16000000
noncomputable def g_eqL07 : List D → Option D := encSpec (fun x : (List Sp) × (List Sp) => [.list (x.1.map eSp), .list (x.2.map eSp)]) (fun x : (List Sp) × (List Sp) => x.1.length ≤ 1099511627776 ∧ x.2.length ≤ 1099511627776) (fun x : (List Sp) × (List Sp) => .bool (decide (x.1 = x.2)))
theorem g_eqL07_eq {a : List Sp} {b : List Sp} (hd : a.length ≤ 1099511627776 ∧ b.length ≤ 1099511627776) : g_eqL07 [.list (a.map eSp), .list (b.map eSp)] = some (.bool (decide (a = b))) := encSpec_eq (x := (a, b)) hd fun y hy => by
    obtain ⟨y0, y1⟩ := y; simp only [List.cons.injEq, and_true, true_and, D.str.injEq, D.int.injEq, D.list.injEq, D.bool.injEq, D.agg.injEq, D.clo.injEq, Int.natCast_inj, inj_ie, D.ref.injEq, eU_e, eWd_e, eWd_ie, eWr_e, eWr_ie, eTk_ie, eTk_e, eFl_ie, eSp_ie, eSp_e, eMc_e, eMc_ie, hid_e] at hy
    (try obtain ⟨rfl, rfl⟩ := hy)
    (try subst_vars)
    rfl
theorem f_eqL07_ok : PureOK Tryz.prog 31 true g_eqL07 := by
  have hΓ := Γ0_ok
  refine pure_enc (n := 26) (rs := [.tmp 4]) Tryz.func31 (by kernel_rfl) rfl (by kernel_rfl) (by kernel_rfl) ?_
  rintro ⟨a, b⟩ hd
  (try dsimp only at hd ⊢)
  refine ⟨fun _ => by (repeat (first | exact .int _ _ | exact .bool _ | exact .str _ | (refine .tup _ (fun d hd => ?_); simp only [List.mem_cons, List.not_mem_nil, or_false] at hd; rcases hd with rfl | hd))), fun k hz0 => ?_⟩
  obtain ⟨d1, d2⟩ := hd
  rw [start_frame (by simp)]; simp only [enumV, go_sem, emptyH]
  by_cases hl : a.length = b.length
  case neg =>
    have hab : decide (a = b) = false := decide_eq_false fun e => hl (by rw [e])
    rw [hab]
    have h1 : (((a.length : Nat) : Int) != (b.length : Int)) = true := by
      simp only [bne_iff_ne, ne_eq]
      omega
    repeat (first
      | (apply axJ; (focus ((with_reducible constructor) <;> rfl)))
      | (apply awT mixedOK hΓ (by kernel_rfl); (simp (disch := omega) only [go_sem, ↓reduceIte, dk, ↓lk, Int.reduceBEq, Int.reduceBNe, Bool.true_bne, Bool.false_bne, Bool.not_true, Bool.not_false, h1] <;> with_reducible rfl))
      | ((first | apply awR hΓ | apply awG | apply awH mixedOK hΓ rfl (by kernel_rfl) | apply ovE rfl); (simp (disch := omega) only [go_sem, ↓reduceIte, dk, ↓lk, Int.reduceBEq, Int.reduceBNe, Bool.true_bne, Bool.false_bne, Bool.not_true, Bool.not_false, h1] <;> with_reducible rfl); exact trivial)
      | rfl)
    try rfl
  have h1 : (((a.length : Nat) : Int) != (b.length : Int)) = false := by simp [hl]
  repeat (first
    | (apply axJ; (focus ((with_reducible constructor) <;> rfl)))
    | (apply awT mixedOK hΓ (by kernel_rfl); (simp (disch := omega) only [go_sem, ↓reduceIte, dk, ↓lk, Int.reduceBEq, Int.reduceBNe, Bool.true_bne, Bool.false_bne, Bool.not_true, Bool.not_false, h1] <;> with_reducible rfl))
    | ((first | apply awR hΓ | apply awG | apply awH mixedOK hΓ rfl (by kernel_rfl) | apply ovE rfl); (simp (disch := omega) only [go_sem, ↓reduceIte, dk, ↓lk, Int.reduceBEq, Int.reduceBNe, Bool.true_bne, Bool.false_bne, Bool.not_true, Bool.not_false, h1] <;> with_reducible rfl); exact trivial)
    | rfl)
  refine awp_loop_at (X := Nat) (fun i => (frame 26 [(0, .data (.list (a.map eSp))), (1, .data (.list (b.map eSp))), (12, .data (i64 a.length)), (13, .data (i64 i))])) (fun _ => []) 12
    (fun i => i ≤ a.length ∧ a.take i = b.take i) (fun i => a.length - i) 0 ⟨Nat.zero_le _, rfl⟩ (Weak.w) ?_
  rintro i ⟨hi, hpre⟩
  (try dsimp only at hi hpre ⊢)
  by_cases hi2 : i < a.length
  · have hi3 : i < b.length := by omega
    have hdf := list_diff hi2 hi3
    have hnx : a[i] = b[i] → a.take (i + 1) = b.take (i + 1) := fun h => by
      rw [List.take_add_one, List.take_add_one, hpre, List.getElem?_eq_getElem hi2, List.getElem?_eq_getElem hi3, h]
    generalize hy : a[i] = y at *
    generalize hz : b[i] = z at *
    obtain ⟨y1, y2, y3⟩ := y
    obtain ⟨z1, z2, z3⟩ := z
    by_cases he : ((y1, y2, y3) : Sp) = (z1, z2, z3)
    · have hq : ((y1 == z1) && ((y2 == z2) && (y3 == z3))) = true := by
        simp only [Prod.mk.injEq] at he
        simp [he.1, he.2.1, he.2.2]
      repeat (first
        | (apply axJ; (focus ((with_reducible constructor) <;> rfl)))
        | (apply awT mixedOK hΓ (by kernel_rfl); (simp (disch := omega) only [go_sem, ↓reduceIte, dk, ↓lk, Int.reduceBEq, Int.reduceBNe, Bool.true_bne, Bool.false_bne, Bool.not_true, Bool.not_false, hy, hz, eq_sp, hq] <;> with_reducible rfl))
        | ((first | apply awR hΓ | apply awG | apply awH mixedOK hΓ rfl (by kernel_rfl) | apply ovE rfl); (simp (disch := omega) only [go_sem, ↓reduceIte, dk, ↓lk, Int.reduceBEq, Int.reduceBNe, Bool.true_bne, Bool.false_bne, Bool.not_true, Bool.not_false, hy, hz, eq_sp, hq] <;> with_reducible rfl); exact trivial)
        | rfl)
      exact ⟨i + 1, ⟨by omega, hnx he⟩, by omega, Weak.w⟩
    · have hq : ((y1 == z1) && ((y2 == z2) && (y3 == z3))) = false := by
        rw [Bool.eq_false_iff]
        intro h
        simp only [Bool.and_eq_true, beq_iff_eq] at h
        exact he (by rw [h.1, h.2.1, h.2.2])
      have hab : decide (a = b) = false := decide_eq_false (hdf he)
      rw [hab]
      repeat (first
        | (apply axJ; (focus ((with_reducible constructor) <;> rfl)))
        | (apply awT mixedOK hΓ (by kernel_rfl); (simp (disch := omega) only [go_sem, ↓reduceIte, dk, ↓lk, Int.reduceBEq, Int.reduceBNe, Bool.true_bne, Bool.false_bne, Bool.not_true, Bool.not_false, hy, hz, eq_sp, hq] <;> with_reducible rfl))
        | ((first | apply awR hΓ | apply awG | apply awH mixedOK hΓ rfl (by kernel_rfl) | apply ovE rfl); (simp (disch := omega) only [go_sem, ↓reduceIte, dk, ↓lk, Int.reduceBEq, Int.reduceBNe, Bool.true_bne, Bool.false_bne, Bool.not_true, Bool.not_false, hy, hz, eq_sp, hq] <;> with_reducible rfl); exact trivial)
        | rfl)
      try rfl
  have hi3 : i = a.length := by omega
  subst hi3
  rw [List.take_length, List.take_of_length_le (by omega)] at hpre
  rw [decide_eq_true hpre]
  repeat (first
    | (apply axJ; (focus ((with_reducible constructor) <;> rfl)))
    | (apply awT mixedOK hΓ (by kernel_rfl); (simp (disch := omega) only [go_sem, ↓reduceIte, dk, ↓lk, Int.reduceBEq, Int.reduceBNe, Bool.true_bne, Bool.false_bne, Bool.not_true, Bool.not_false] <;> with_reducible rfl))
    | ((first | apply awR hΓ | apply awG | apply awH mixedOK hΓ rfl (by kernel_rfl) | apply ovE rfl); (simp (disch := omega) only [go_sem, ↓reduceIte, dk, ↓lk, Int.reduceBEq, Int.reduceBNe, Bool.true_bne, Bool.false_bne, Bool.not_true, Bool.not_false] <;> with_reducible rfl); exact trivial)
    | rfl)
  try rfl
noncomputable def g_few3b : List D → Option D := encSpec (fun x : (List Fl) × Int × Int => [.list (x.1.map eFl), i64 x.2.1, i64 x.2.2]) (fun x : (List Fl) × Int × Int => x.1.length ≤ 1099511627776 ∧ (∀ f ∈ x.1, f.2.length ≤ 1099511627776) ∧ 0 ≤ x.2.2 ∧ x.2.2 ≤ 1099511627776) (fun x : (List Fl) × Int × Int => .bool (few3 x.1 x.2.1 x.2.2))
theorem g_few3b_eq {l : List Fl} {m : Int} {z : Int} (hd : l.length ≤ 1099511627776 ∧ (∀ f ∈ l, f.2.length ≤ 1099511627776) ∧ 0 ≤ z ∧ z ≤ 1099511627776) : g_few3b [.list (l.map eFl), .int .i64 m, .int .i64 z] = some (.bool (few3 l m z)) := encSpec_eq (x := (l, m, z)) hd fun y hy => by
    obtain ⟨y0, y1, y2⟩ := y; simp only [List.cons.injEq, and_true, true_and, D.str.injEq, D.int.injEq, D.list.injEq, D.bool.injEq, D.agg.injEq, D.clo.injEq, Int.natCast_inj, inj_ie, D.ref.injEq, eU_e, eWd_e, eWd_ie, eWr_e, eWr_ie, eTk_ie, eTk_e, eFl_ie, eSp_ie, eSp_e, eMc_e, eMc_ie, hid_e] at hy
    (try obtain ⟨rfl, rfl, rfl⟩ := hy)
    (try subst_vars)
    rfl
theorem f_few3b_ok : PureOK Tryz.prog 10 true g_few3b := by
  have hΓ := Γ0_ok
  refine pure_enc (n := 35) (rs := [.tmp 6]) Tryz.func10 (by kernel_rfl) rfl (by kernel_rfl) (by kernel_rfl) ?_
  rintro ⟨l, m, z⟩ hd
  (try dsimp only at hd ⊢)
  refine ⟨fun _ => by (repeat (first | exact .int _ _ | exact .bool _ | exact .str _ | (refine .tup _ (fun d hd => ?_); simp only [List.mem_cons, List.not_mem_nil, or_false] at hd; rcases hd with rfl | hd))), fun k hz0 => ?_⟩
  obtain ⟨d1, d2, d3, d4⟩ := hd
  unfold few3
  rw [start_frame (by simp)]; simp only [enumV, go_sem, emptyH]
  cases h1 : decide ((l.length : Int) > m)
  case true =>
    simp only [if_true]
    repeat (first
      | (apply axJ; (focus ((with_reducible constructor) <;> rfl)))
      | (apply awT mixedOK hΓ (by kernel_rfl); (simp (disch := omega) only [go_sem, ↓reduceIte, dk, ↓lk, Int.reduceBEq, Int.reduceBNe, Bool.true_bne, Bool.false_bne, Bool.not_true, Bool.not_false, h1] <;> with_reducible rfl))
      | ((first | apply awR hΓ | apply awG | apply awH mixedOK hΓ rfl (by kernel_rfl) | apply ovE rfl); (simp (disch := omega) only [go_sem, ↓reduceIte, dk, ↓lk, Int.reduceBEq, Int.reduceBNe, Bool.true_bne, Bool.false_bne, Bool.not_true, Bool.not_false, h1] <;> with_reducible rfl); exact trivial)
      | rfl)
    try rfl
  simp only [Bool.false_eq_true, if_false]
  repeat (first
    | (apply axJ; (focus ((with_reducible constructor) <;> rfl)))
    | (apply awT mixedOK hΓ (by kernel_rfl); (simp (disch := omega) only [go_sem, ↓reduceIte, dk, ↓lk, Int.reduceBEq, Int.reduceBNe, Bool.true_bne, Bool.false_bne, Bool.not_true, Bool.not_false, h1] <;> with_reducible rfl))
    | ((first | apply awR hΓ | apply awG | apply awH mixedOK hΓ rfl (by kernel_rfl) | apply ovE rfl); (simp (disch := omega) only [go_sem, ↓reduceIte, dk, ↓lk, Int.reduceBEq, Int.reduceBNe, Bool.true_bne, Bool.false_bne, Bool.not_true, Bool.not_false, h1] <;> with_reducible rfl); exact trivial)
    | rfl)
  refine awp_loop_at (X := Nat × Int) (fun y => (frame 35 [(2, .data (i64 z)), (7, .data (i64 y.2)), (14, .data (.list (l.map eFl))), (15, .data (i64 l.length)), (16, .data (i64 y.1))])) (fun _ => []) 13
    (fun y => y.1 ≤ l.length ∧ few3Go z 0 l = few3Go z y.2 (l.drop y.1) ∧ 0 ≤ y.2 ∧ y.2 ≤ z) (fun y => l.length - y.1) (0, 0) ⟨Nat.zero_le _, rfl, by decide, d3⟩ (Weak.w) ?_
  rintro ⟨i, n⟩ ⟨hi, hpre, hn1, hn2⟩
  (try dsimp only at hi hpre hn1 hn2 ⊢)
  rw [hpre]
  clear hpre
  by_cases hi2 : i < l.length
  · have hdr := List.drop_eq_getElem_cons hi2
    have hdy := d2 l[i] (List.getElem_mem hi2)
    rw [hdr]
    generalize hy : l[i] = y at *
    obtain ⟨y1, y2⟩ := y
    dsimp only at hdy
    rw [few3Go]
    cases hq : decide ((y1.length : Int) > 300)
    · cases hq2 : decide (n + (y2.length : Int) > z)
      · repeat (first
        | (apply axJ; (focus ((with_reducible constructor) <;> rfl)))
        | (apply awT mixedOK hΓ (by kernel_rfl); (simp (disch := omega) only [go_sem, ↓reduceIte, dk, ↓lk, Int.reduceBEq, Int.reduceBNe, Bool.true_bne, Bool.false_bne, Bool.not_true, Bool.not_false, hy, hq, hq2] <;> with_reducible rfl))
        | ((first | apply awR hΓ | apply awG | apply awH mixedOK hΓ rfl (by kernel_rfl) | apply ovE rfl); (simp (disch := omega) only [go_sem, ↓reduceIte, dk, ↓lk, Int.reduceBEq, Int.reduceBNe, Bool.true_bne, Bool.false_bne, Bool.not_true, Bool.not_false, hy, hq, hq2] <;> with_reducible rfl); exact trivial)
        | rfl)
        have hz2 := of_decide_eq_false hq2
        exact ⟨(i + 1, n + (y2.length : Int)), ⟨by dsimp only; omega, rfl, by dsimp only; omega, by dsimp only; omega⟩, by dsimp only; omega, Weak.w⟩
      · repeat (first
        | (apply axJ; (focus ((with_reducible constructor) <;> rfl)))
        | (apply awT mixedOK hΓ (by kernel_rfl); (simp (disch := omega) only [go_sem, ↓reduceIte, dk, ↓lk, Int.reduceBEq, Int.reduceBNe, Bool.true_bne, Bool.false_bne, Bool.not_true, Bool.not_false, hy, hq, hq2] <;> with_reducible rfl))
        | ((first | apply awR hΓ | apply awG | apply awH mixedOK hΓ rfl (by kernel_rfl) | apply ovE rfl); (simp (disch := omega) only [go_sem, ↓reduceIte, dk, ↓lk, Int.reduceBEq, Int.reduceBNe, Bool.true_bne, Bool.false_bne, Bool.not_true, Bool.not_false, hy, hq, hq2] <;> with_reducible rfl); exact trivial)
        | rfl)
        try rfl
    · repeat (first
      | (apply axJ; (focus ((with_reducible constructor) <;> rfl)))
      | (apply awT mixedOK hΓ (by kernel_rfl); (simp (disch := omega) only [go_sem, ↓reduceIte, dk, ↓lk, Int.reduceBEq, Int.reduceBNe, Bool.true_bne, Bool.false_bne, Bool.not_true, Bool.not_false, hy, hq] <;> with_reducible rfl))
      | ((first | apply awR hΓ | apply awG | apply awH mixedOK hΓ rfl (by kernel_rfl) | apply ovE rfl); (simp (disch := omega) only [go_sem, ↓reduceIte, dk, ↓lk, Int.reduceBEq, Int.reduceBNe, Bool.true_bne, Bool.false_bne, Bool.not_true, Bool.not_false, hy, hq] <;> with_reducible rfl); exact trivial)
      | rfl)
      try rfl
  have hi3 : i = l.length := by omega
  subst hi3
  rw [List.drop_length, few3Go]
  repeat (first
    | (apply axJ; (focus ((with_reducible constructor) <;> rfl)))
    | (apply awT mixedOK hΓ (by kernel_rfl); (simp (disch := omega) only [go_sem, ↓reduceIte, dk, ↓lk, Int.reduceBEq, Int.reduceBNe, Bool.true_bne, Bool.false_bne, Bool.not_true, Bool.not_false] <;> with_reducible rfl))
    | ((first | apply awR hΓ | apply awG | apply awH mixedOK hΓ rfl (by kernel_rfl) | apply ovE rfl); (simp (disch := omega) only [go_sem, ↓reduceIte, dk, ↓lk, Int.reduceBEq, Int.reduceBNe, Bool.true_bne, Bool.false_bne, Bool.not_true, Bool.not_false] <;> with_reducible rfl); exact trivial)
    | rfl)
  try rfl
noncomputable def g_tokL : List D → Option D := encSpec (fun x : Bs => [.str x]) (fun x : Bs => x.length ≤ 1099511627776) (fun x : Bs => .list ((toksB x).1.map eTk))
theorem g_tokL_eq {s : Bs} (hd : s.length ≤ 1099511627776) : g_tokL [.str s] = some (.list ((toksB s).1.map eTk)) := encSpec_eq (x := s) hd fun y hy => by
    simp only [List.cons.injEq, and_true, true_and, D.str.injEq, D.int.injEq, D.list.injEq, D.bool.injEq, D.agg.injEq, D.clo.injEq, Int.natCast_inj, inj_ie, D.ref.injEq, eU_e, eWd_e, eWd_ie, eWr_e, eWr_ie, eTk_ie, eTk_e, eFl_ie, eSp_ie, eSp_e, eMc_e, eMc_ie, hid_e] at hy
    rw [hy]
theorem f_tokL_ok : PureOK Tryz.prog 30 false g_tokL := by
  have hΓ := Γp f_toksR_ok (Γn)
  refine pure_enc (n := 11) (rs := [.tmp 2]) Tryz.func30 (by kernel_rfl) rfl (by kernel_rfl) (by kernel_rfl) ?_
  rintro s hd
  (try dsimp only at hd ⊢)
  refine ⟨fun h => (by cases h), fun k hz0 => ?_⟩
  have e1 := g_toksR_eq hd
  unfold eTks at e1
  rw [start_frame (by simp)]; simp only [enumV, go_sem, emptyH]
  repeat (first
    | (apply axJ; (focus ((with_reducible constructor) <;> rfl)))
    | (apply awT mixedOK hΓ (by kernel_rfl); (simp (disch := omega) only [go_sem, ↓reduceIte, dk, ↓lk, Int.reduceBEq, Int.reduceBNe, Bool.true_bne, Bool.false_bne, Bool.not_true, Bool.not_false, e1] <;> with_reducible rfl))
    | ((first | apply awR hΓ | apply awG | apply awH mixedOK hΓ rfl (by kernel_rfl) | apply ovE rfl); (simp (disch := omega) only [go_sem, ↓reduceIte, dk, ↓lk, Int.reduceBEq, Int.reduceBNe, Bool.true_bne, Bool.false_bne, Bool.not_true, Bool.not_false, e1] <;> with_reducible rfl); exact trivial)
    | rfl)
  try rfl
def wkFs : List Fl := [([97, 47, 98], [50, 10, 40, 32, 97, 32, 43, 10, 98, 32, 41, 10, 113, 10, 112])]
def wkUs : List Mc := [⟨[112], [], ([97, 47, 98], 3, 4)⟩, ⟨[113], [], ([97, 47, 98], 4, 5)⟩, ⟨[115, 117, 109], [[97], [98]], ([97, 47, 98], 1, 3)⟩, ⟨[116, 119, 111], [], ([97, 47, 98], 0, 1)⟩]
def tkOK (l : List Tk) : Bool := decide (l.length ≤ 1000) && l.all fun t => decide (t.2.length ≤ 1000)
theorem tkOK_d {l : List Tk} (h : tkOK l = true) : l.length ≤ 1099511627776 ∧ ∀ t ∈ l, t.2.length ≤ 1000000000 := by
  unfold tkOK at h
  simp only [Bool.and_eq_true, decide_eq_true_eq, List.all_eq_true] at h
  exact ⟨by omega, fun t ht => by have := h.2 t ht; omega⟩
theorem wk_kS1 : tkOK (toksB [120, 32, 42, 32, 115, 117, 109, 32, 40, 32, 116, 119, 111, 32, 44, 32, 115, 117, 109, 32, 41]).1 = true := by kernel_rfl
theorem wk_kS2 : tkOK (toksB [112]).1 = true := by kernel_rfl
theorem wk_kS3 : tkOK (toksB [115, 117, 109, 32, 40, 32, 49, 32, 41]).1 = true := by kernel_rfl
theorem wk_kS4 : tkOK (toksB [115, 117, 109, 32, 40, 32, 44, 32, 49, 32, 41]).1 = true := by kernel_rfl
theorem wk_kS5 : tkOK (toksB [115, 117, 109, 32, 43, 32, 49]).1 = true := by kernel_rfl
theorem wk_kS6 : tkOK (toksB [120, 32, 42, 32, 40, 32, 50, 32, 43, 32, 115, 117, 109, 32, 41]).1 = true := by kernel_rfl
theorem wk_l1 : lineG wkFs wkUs (toksB [120, 32, 42, 32, 115, 117, 109, 32, 40, 32, 116, 119, 111, 32, 44, 32, 115, 117, 109, 32, 41]).1 = (((toksB [120, 32, 42, 32, 40, 32, 50, 32, 43, 32, 115, 117, 109, 32, 41]).1, [([97, 47, 98], 0, 3)]), 0) := by kernel_rfl
theorem wk_l2 : lineG wkFs wkUs (toksB [112]).1 = (((toksB [112]).1, [([97, 47, 98], 3, 5)]), 0) := by kernel_rfl
theorem wk_l3 : lineG wkFs wkUs (toksB [115, 117, 109, 32, 40, 32, 49, 32, 41]).1 = (([], []), 9) := by kernel_rfl
theorem wk_l4 : lineG wkFs wkUs (toksB [115, 117, 109, 32, 40, 32, 44, 32, 49, 32, 41]).1 = (([], []), 4) := by kernel_rfl
theorem wk_l5 : lineG wkFs wkUs (toksB [115, 117, 109, 32, 43, 32, 49]).1 = (([], []), 4) := by kernel_rfl
theorem mc_cells7 {l : List Mc} : (∀ d ∈ l.map eMc, d.cells.length = 5) ∧ ∀ d ∈ flat (l.map eMc), d.one = true := by
  constructor
  · intro d hd
    obtain ⟨w, _, rfl⟩ := List.mem_map.1 hd
    rfl
  · intro d hd
    unfold flat at hd
    obtain ⟨x, hx, hd⟩ := List.mem_flatMap.1 hd
    obtain ⟨w, _, rfl⟩ := List.mem_map.1 hx
    simp only [eMc, D.cells, List.mem_cons, List.not_mem_nil, or_false] at hd
    rcases hd with rfl | rfl | rfl | rfl | rfl <;> rfl
noncomputable def g_wk07 : List D → Option D := encSpec (fun _ : Unit => []) (fun _ => True) (fun _ => .bool true)
theorem g_wk07_eq : g_wk07 [] = some (.bool true) := encSpec_eq (x := ()) trivial fun _ _ => rfl
theorem f_wk07_ok : PureOK Tryz.prog 9 true g_wk07 := by
  have hΓ := (Γp f_lineP7_ok (Γp f_tokL_ok (Γp f_sameT_ok (Γp f_eqL07_ok (Γn)))))
  refine pure_enc (n := 111) (rs := [.tmp 0]) Tryz.func9 (by kernel_rfl) rfl (by kernel_rfl) (by kernel_rfl) ?_
  rintro _ _
  refine ⟨fun _ => .bool _, fun k hz0 => ?_⟩
  have dd : (wkFs.length ≤ 1099511627776 ∧ ∀ f ∈ wkFs, f.2.length ≤ 1000000000) ∧ (wkUs.length ≤ 1000000 ∧ ∀ m ∈ wkUs, m.params.length ≤ 1000000 ∧ m.name.length ≤ 1099511627776) := ⟨⟨by decide, by decide⟩, by decide, by decide⟩
  have p1 := g_tokL_eq (s := [120, 32, 42, 32, 115, 117, 109, 32, 40, 32, 116, 119, 111, 32, 44, 32, 115, 117, 109, 32, 41]) (by decide)
  have p2 := g_tokL_eq (s := [112]) (by decide)
  have p3 := g_tokL_eq (s := [115, 117, 109, 32, 40, 32, 49, 32, 41]) (by decide)
  have p4 := g_tokL_eq (s := [115, 117, 109, 32, 40, 32, 44, 32, 49, 32, 41]) (by decide)
  have p5 := g_tokL_eq (s := [115, 117, 109, 32, 43, 32, 49]) (by decide)
  have p6 := g_tokL_eq (s := [120, 32, 42, 32, 40, 32, 50, 32, 43, 32, 115, 117, 109, 32, 41]) (by decide)
  have q1 := g_lineP7_eq (fs := wkFs) (us := wkUs) (l := (toksB [120, 32, 42, 32, 115, 117, 109, 32, 40, 32, 116, 119, 111, 32, 44, 32, 115, 117, 109, 32, 41]).1) ⟨dd, tkOK_d wk_kS1⟩
  rw [wk_l1] at q1
  have q2 := g_lineP7_eq (fs := wkFs) (us := wkUs) (l := (toksB [112]).1) ⟨dd, tkOK_d wk_kS2⟩
  rw [wk_l2] at q2
  have q3 := g_lineP7_eq (fs := wkFs) (us := wkUs) (l := (toksB [115, 117, 109, 32, 40, 32, 49, 32, 41]).1) ⟨dd, tkOK_d wk_kS3⟩
  rw [wk_l3] at q3
  have q4 := g_lineP7_eq (fs := wkFs) (us := wkUs) (l := (toksB [115, 117, 109, 32, 40, 32, 44, 32, 49, 32, 41]).1) ⟨dd, tkOK_d wk_kS4⟩
  rw [wk_l4] at q4
  have q5 := g_lineP7_eq (fs := wkFs) (us := wkUs) (l := (toksB [115, 117, 109, 32, 43, 32, 49]).1) ⟨dd, tkOK_d wk_kS5⟩
  rw [wk_l5] at q5
  have r2 := g_sameT_eq (a := (toksB [112]).1) (b := (toksB [112]).1) ⟨(tkOK_d wk_kS2).1, (tkOK_d wk_kS2).1⟩
  have r6 := g_sameT_eq (a := (toksB [120, 32, 42, 32, 40, 32, 50, 32, 43, 32, 115, 117, 109, 32, 41]).1) (b := (toksB [120, 32, 42, 32, 40, 32, 50, 32, 43, 32, 115, 117, 109, 32, 41]).1) ⟨(tkOK_d wk_kS6).1, (tkOK_d wk_kS6).1⟩
  rw [decide_eq_true rfl] at r2 r6
  have t1 := g_eqL07_eq (a := [([97, 47, 98], 0, 3)]) (b := [([97, 47, 98], 0, 3)]) ⟨by decide, by decide⟩
  have t2 := g_eqL07_eq (a := [([97, 47, 98], 3, 5)]) (b := [([97, 47, 98], 3, 5)]) ⟨by decide, by decide⟩
  rw [decide_eq_true rfl] at t1 t2
  clear dd
  generalize (toksB [120, 32, 42, 32, 115, 117, 109, 32, 40, 32, 116, 119, 111, 32, 44, 32, 115, 117, 109, 32, 41]).1 = T1 at *
  generalize (toksB [112]).1 = T2 at *
  generalize (toksB [115, 117, 109, 32, 40, 32, 49, 32, 41]).1 = T3 at *
  generalize (toksB [115, 117, 109, 32, 40, 32, 44, 32, 49, 32, 41]).1 = T4 at *
  generalize (toksB [115, 117, 109, 32, 43, 32, 49]).1 = T5 at *
  generalize (toksB [120, 32, 42, 32, 40, 32, 50, 32, 43, 32, 115, 117, 109, 32, 41]).1 = T6 at *
  replace q1 : g_lineP7 [.list [.agg [.str [97, 47, 98], .str [50, 10, 40, 32, 97, 32, 43, 10, 98, 32, 41, 10, 113, 10, 112]]], .agg [.str [], .list [], .list [.agg [.str [112], .list [], .str [97, 47, 98], .int .i64 3, .int .i64 4], .agg [.str [113], .list [], .str [97, 47, 98], .int .i64 4, .int .i64 5], .agg [.str [115, 117, 109], .list [.str [97], .str [98]], .str [97, 47, 98], .int .i64 1, .int .i64 3], .agg [.str [116, 119, 111], .list [], .str [97, 47, 98], .int .i64 0, .int .i64 1]], .list [], .list [], .list []], .list (T1.map eTk)] = some (.tup [.list (T6.map eTk), .list [.agg [.str [97, 47, 98], .int .i64 0, .int .i64 3]], .int .i64 0]) := q1
  replace q2 : g_lineP7 [.list [.agg [.str [97, 47, 98], .str [50, 10, 40, 32, 97, 32, 43, 10, 98, 32, 41, 10, 113, 10, 112]]], .agg [.str [], .list [], .list [.agg [.str [112], .list [], .str [97, 47, 98], .int .i64 3, .int .i64 4], .agg [.str [113], .list [], .str [97, 47, 98], .int .i64 4, .int .i64 5], .agg [.str [115, 117, 109], .list [.str [97], .str [98]], .str [97, 47, 98], .int .i64 1, .int .i64 3], .agg [.str [116, 119, 111], .list [], .str [97, 47, 98], .int .i64 0, .int .i64 1]], .list [], .list [], .list []], .list (T2.map eTk)] = some (.tup [.list (T2.map eTk), .list [.agg [.str [97, 47, 98], .int .i64 3, .int .i64 5]], .int .i64 0]) := q2
  replace q3 : g_lineP7 [.list [.agg [.str [97, 47, 98], .str [50, 10, 40, 32, 97, 32, 43, 10, 98, 32, 41, 10, 113, 10, 112]]], .agg [.str [], .list [], .list [.agg [.str [112], .list [], .str [97, 47, 98], .int .i64 3, .int .i64 4], .agg [.str [113], .list [], .str [97, 47, 98], .int .i64 4, .int .i64 5], .agg [.str [115, 117, 109], .list [.str [97], .str [98]], .str [97, 47, 98], .int .i64 1, .int .i64 3], .agg [.str [116, 119, 111], .list [], .str [97, 47, 98], .int .i64 0, .int .i64 1]], .list [], .list [], .list []], .list (T3.map eTk)] = some (.tup [.list [], .list [], .int .i64 9]) := q3
  replace q4 : g_lineP7 [.list [.agg [.str [97, 47, 98], .str [50, 10, 40, 32, 97, 32, 43, 10, 98, 32, 41, 10, 113, 10, 112]]], .agg [.str [], .list [], .list [.agg [.str [112], .list [], .str [97, 47, 98], .int .i64 3, .int .i64 4], .agg [.str [113], .list [], .str [97, 47, 98], .int .i64 4, .int .i64 5], .agg [.str [115, 117, 109], .list [.str [97], .str [98]], .str [97, 47, 98], .int .i64 1, .int .i64 3], .agg [.str [116, 119, 111], .list [], .str [97, 47, 98], .int .i64 0, .int .i64 1]], .list [], .list [], .list []], .list (T4.map eTk)] = some (.tup [.list [], .list [], .int .i64 4]) := q4
  replace q5 : g_lineP7 [.list [.agg [.str [97, 47, 98], .str [50, 10, 40, 32, 97, 32, 43, 10, 98, 32, 41, 10, 113, 10, 112]]], .agg [.str [], .list [], .list [.agg [.str [112], .list [], .str [97, 47, 98], .int .i64 3, .int .i64 4], .agg [.str [113], .list [], .str [97, 47, 98], .int .i64 4, .int .i64 5], .agg [.str [115, 117, 109], .list [.str [97], .str [98]], .str [97, 47, 98], .int .i64 1, .int .i64 3], .agg [.str [116, 119, 111], .list [], .str [97, 47, 98], .int .i64 0, .int .i64 1]], .list [], .list [], .list []], .list (T5.map eTk)] = some (.tup [.list [], .list [], .int .i64 4]) := q5
  replace t1 : g_eqL07 [.list [.agg [.str [97, 47, 98], .int .i64 0, .int .i64 3]], .list [.agg [.str [97, 47, 98], .int .i64 0, .int .i64 3]]] = some (.bool true) := t1
  replace t2 : g_eqL07 [.list [.agg [.str [97, 47, 98], .int .i64 3, .int .i64 5]], .list [.agg [.str [97, 47, 98], .int .i64 3, .int .i64 5]]] = some (.bool true) := t2
  rw [start_frame (by simp)]; simp only [enumV, go_sem, emptyH]
  repeat (first
    | (apply axJ; (focus ((with_reducible constructor) <;> rfl)))
    | (apply awT mixedOK hΓ (by kernel_rfl); (simp (disch := omega) only [go_sem, ↓reduceIte, dk, ↓lk, Int.reduceBEq, Int.reduceBNe, Bool.true_bne, Bool.false_bne, Bool.not_true, Bool.not_false, Int.reduceToNat, List.getElem?_cons_zero, List.getElem?_cons_succ, ↓ty_build67, ↓ty_build26, ↓ty_build28, ↓ty_build37] <;> with_reducible rfl))
    | ((first | apply awR hΓ | apply awG | apply awH mixedOK hΓ rfl (by kernel_rfl) | apply ovE rfl); (simp (disch := omega) only [go_sem, ↓reduceIte, dk, ↓lk, Int.reduceBEq, Int.reduceBNe, Bool.true_bne, Bool.false_bne, Bool.not_true, Bool.not_false, Int.reduceToNat, List.getElem?_cons_zero, List.getElem?_cons_succ, ↓ty_build67, ↓ty_build26, ↓ty_build28, ↓ty_build37] <;> with_reducible rfl); exact trivial)
    | rfl)
  repeat (first
    | (apply axJ; (focus ((with_reducible constructor) <;> rfl)))
    | (apply awT mixedOK hΓ (by kernel_rfl); (simp (disch := omega) only [go_sem, ↓reduceIte, dk, ↓lk, Int.reduceBEq, Int.reduceBNe, Bool.true_bne, Bool.false_bne, Bool.not_true, Bool.not_false, Int.reduceToNat, List.getElem?_cons_zero, List.getElem?_cons_succ, ↓ty_build67, ↓ty_build26, ↓ty_build28, ↓ty_build37, zeroLoose, partsLoose, arrRep] <;> with_reducible rfl))
    | ((first | apply awN hΓ | apply awG | apply awH mixedOK hΓ rfl (by kernel_rfl) | apply ovE rfl); (simp (disch := omega) only [go_sem, ↓reduceIte, dk, ↓lk, Int.reduceBEq, Int.reduceBNe, Bool.true_bne, Bool.false_bne, Bool.not_true, Bool.not_false, Int.reduceToNat, List.getElem?_cons_zero, List.getElem?_cons_succ, ↓ty_build67, ↓ty_build26, ↓ty_build28, ↓ty_build37, zeroLoose, partsLoose, arrRep] <;> with_reducible rfl); exact trivial)
    | rfl)
  refine awp_weak (Weak.trans (Weak.freeze (o := 8) rfl) (Weak.trans (Weak.arrRow (o := 13) (l := wkUs.map eMc) rfl ⟨rfl, .inr (.inl ⟨rfl, rfl⟩), rfl, rfl, rfl, rfl, .inr (.inl ⟨rfl, rfl⟩), rfl, rfl, rfl, rfl, .inr (.inr ⟨8, 2, rfl, rfl, rfl⟩), rfl, rfl, rfl, rfl, .inr (.inl ⟨rfl, rfl⟩), rfl, rfl, rfl, trivial⟩ rfl mc_cells7.1 mc_cells7.2) (Weak.trans (Weak.freeze (o := 13) rfl) (Weak.trans (Weak.boxConv (o := 15) (cs' := [.data (.str []), .data (.list []), .data (.list [.agg [.str [112], .list [], .str [97, 47, 98], .int .i64 3, .int .i64 4], .agg [.str [113], .list [], .str [97, 47, 98], .int .i64 4, .int .i64 5], .agg [.str [115, 117, 109], .list [.str [97], .str [98]], .str [97, 47, 98], .int .i64 1, .int .i64 3], .agg [.str [116, 119, 111], .list [], .str [97, 47, 98], .int .i64 0, .int .i64 1]]), .data (.list []), .data (.list []), .data (.list [])]) rfl ⟨rfl, .inr (.inl ⟨rfl, rfl⟩), .inr (.inr ⟨13, 4, rfl, rfl, rfl⟩), .inr (.inl ⟨rfl, rfl⟩), .inr (.inl ⟨rfl, rfl⟩), .inr (.inl ⟨rfl, rfl⟩), trivial⟩) (Weak.trans (Weak.freeze (o := 2) rfl) (show Weak _ _ _ ((frame 111 [(1, .data (.list [.agg [.str [97, 47, 98], .str [50, 10, 40, 32, 97, 32, 43, 10, 98, 32, 41, 10, 113, 10, 112]]])), (2, .ptr 15 0)])) ⟨[(15, .box [.data (.str []), .data (.list []), .data (.list [.agg [.str [112], .list [], .str [97, 47, 98], .int .i64 3, .int .i64 4], .agg [.str [113], .list [], .str [97, 47, 98], .int .i64 4, .int .i64 5], .agg [.str [115, 117, 109], .list [.str [97], .str [98]], .str [97, 47, 98], .int .i64 1, .int .i64 3], .agg [.str [116, 119, 111], .list [], .str [97, 47, 98], .int .i64 0, .int .i64 1]]), .data (.list []), .data (.list []), .data (.list [])])], 17⟩ from Weak.v (by (simp [ConvF, lookV, Conv, ints, upd, Heap.set, Heap.get, look]; done)) (by (simp (disch := omega) only [TabSub, look, if_pos, if_neg, Obj.refsOK, refsOKs, AV.refsOK, decide_eq_true_eq, Bool.and_true, Bool.and_self, upd, Heap.set, Heap.get, look] ) <;> ((repeat' apply And.intro) <;> first | exact True.intro | omega | (simp; done) | rfl)))))))) ?_
  repeat (first
    | (apply axJ; (focus ((with_reducible constructor) <;> rfl)))
    | (apply awT mixedOK hΓ (by kernel_rfl); (simp (disch := omega) only [go_sem, ↓reduceIte, dk, ↓lk, Int.reduceBEq, Int.reduceBNe, Bool.true_bne, Bool.false_bne, Bool.not_true, Bool.not_false, Int.reduceToNat, List.getElem?_cons_zero, List.getElem?_cons_succ, p1, p2, p3, p4, p5, p6, q1, q2, q3, q4, q5] <;> with_reducible rfl))
    | ((first | apply awR hΓ | apply awG | apply awH mixedOK hΓ rfl (by kernel_rfl) | apply ovE rfl); (simp (disch := omega) only [go_sem, ↓reduceIte, dk, ↓lk, Int.reduceBEq, Int.reduceBNe, Bool.true_bne, Bool.false_bne, Bool.not_true, Bool.not_false, Int.reduceToNat, List.getElem?_cons_zero, List.getElem?_cons_succ, p1, p2, p3, p4, p5, p6, q1, q2, q3, q4, q5] <;> with_reducible rfl); exact trivial)
    | rfl)
  refine awp_weak (show Weak _ _ _ ((frame 111 [(3, .data (.list (T6.map eTk))), (4, .data (.list [.agg [.str [97, 47, 98], .int .i64 0, .int .i64 3]])), (5, .data (.int .i64 0)), (6, .data (.list (T2.map eTk))), (7, .data (.list [.agg [.str [97, 47, 98], .int .i64 3, .int .i64 5]])), (8, .data (.int .i64 0)), (11, .data (.int .i64 9)), (14, .data (.int .i64 4)), (17, .data (.int .i64 4))])) ⟨[], 72⟩ from Weak.v (by (simp [ConvF, lookV, Conv, ints, Heap.get, look]; done)) (by (simp (disch := omega) only [TabSub, look, if_pos, if_neg, Obj.refsOK, refsOKs, AV.refsOK, decide_eq_true_eq, Bool.and_true, Bool.and_self, Heap.get, look] ) <;> ((repeat' apply And.intro) <;> first | exact True.intro | omega | (simp; done) | rfl))) ?_
  apply awR hΓ
  · simp (maxSteps := 4000000) (disch := omega) only [go_sem, ↓reduceIte, dk, ↓lk, Int.reduceBEq, Int.reduceBNe, Bool.true_bne, Bool.false_bne, Bool.not_true, Bool.not_false, Int.reduceToNat, Int.reduceAdd, List.getElem?_cons_zero, List.getElem?_cons_succ, BEq.rfl, List.append_eq, List.cons_append, List.nil_append, ↓ty_build26, p2, p6, r2, r6, t1, t2]
    with_reducible rfl
  exact trivial
  repeat (first
    | (apply axJ; (focus ((with_reducible constructor) <;> rfl)))
    | (apply awT mixedOK hΓ (by kernel_rfl); (simp (disch := omega) only [go_sem, ↓reduceIte, dk] <;> with_reducible rfl))
    | ((first | apply awR hΓ | apply awG | apply awH mixedOK hΓ rfl (by kernel_rfl) | apply ovE rfl); (simp (disch := omega) only [go_sem, ↓reduceIte, dk] <;> with_reducible rfl); exact trivial)
    | rfl)
  try rfl
end Go.Ab
namespace Go.Ab
open Go Go.RowKit Go.Proofs
set_option maxRecDepth 100000
set_option maxHeartbeats 16000000
def few07 (fs : List Fl) (us : List Mc) (l : List Tk) (tx : Bs) : Bool := ((few3 fs 8 3000 && few7 us) && few5 l) && decide ((tx.length : Int) ≤ 300)
noncomputable def g_unit07 : List D → Option D := encSpec (fun x : (List Fl) × (List Mc) × (List Tk) × Bs × Int × Bs => [.agg [.list (x.1.map eFl), .list (x.2.1.map eMc), .list (x.2.2.1.map eTk), .str x.2.2.2.1, i64 x.2.2.2.2.1, .str x.2.2.2.2.2]]) (fun x : (List Fl) × (List Mc) × (List Tk) × Bs × Int × Bs => True) (fun x : (List Fl) × (List Mc) × (List Tk) × Bs × Int × Bs => eU x.2.1)
theorem g_unit07_eq {fs : List Fl} {us : List Mc} {l : List Tk} {lp : Bs} {ln : Int} {tx : Bs} (hd : True) : g_unit07 [.agg [.list (fs.map eFl), .list (us.map eMc), .list (l.map eTk), .str lp, .int .i64 ln, .str tx]] = some (eU us) := encSpec_eq (x := (fs, us, l, lp, ln, tx)) hd fun y hy => by
    obtain ⟨y0, y1, y2, y3, y4, y5⟩ := y; simp only [List.cons.injEq, and_true, true_and, D.str.injEq, D.int.injEq, D.list.injEq, D.bool.injEq, D.agg.injEq, D.clo.injEq, Int.natCast_inj, inj_ie, D.ref.injEq, eU_e, eWd_e, eWd_ie, eWr_e, eWr_ie, eTk_ie, eTk_e, eFl_ie, eSp_ie, eSp_e, eMc_e, eMc_ie, hid_e] at hy
    (try obtain ⟨rfl, rfl, rfl, rfl, rfl, rfl⟩ := hy)
    (try subst_vars)
    rfl
theorem f_unit07_ok : PureOK Tryz.prog 17 false g_unit07 := by
  have hΓ := Γ0_ok
  refine pure_enc (n := 6) (rs := [.cell 2 37]) Tryz.func17 (by kernel_rfl) rfl (by kernel_rfl) (by kernel_rfl) ?_
  rintro ⟨fs, us, l, lp, ln, tx⟩ hd
  (try dsimp only at hd ⊢)
  refine ⟨fun h => (by cases h), fun k hz0 => ?_⟩
  rw [eU_eq]
  rw [start_frame (by simp)]; simp only [enumV, go_sem, emptyH]
  repeat (first
    | (apply axJ; (focus ((with_reducible constructor) <;> rfl)))
    | (apply awT mixedOK hΓ (by kernel_rfl); (simp (disch := omega) only [go_sem, ↓reduceIte, dk, ↓lk, Int.reduceBEq, Int.reduceBNe, Bool.true_bne, Bool.false_bne, Bool.not_true, Bool.not_false, ↓ty_build37] <;> with_reducible rfl))
    | ((first | apply awR hΓ | apply awG | apply awH mixedOK hΓ rfl (by kernel_rfl) | apply ovE rfl); (simp (disch := omega) only [go_sem, ↓reduceIte, dk, ↓lk, Int.reduceBEq, Int.reduceBNe, Bool.true_bne, Bool.false_bne, Bool.not_true, Bool.not_false, ↓ty_build37] <;> with_reducible rfl); exact trivial)
    | rfl)
  try rfl
noncomputable def g_fewC : List D → Option D := encSpec (fun x : (List Fl) × (List Mc) × (List Tk) × Bs × Int × Bs => [.agg [.list (x.1.map eFl), .list (x.2.1.map eMc), .list (x.2.2.1.map eTk), .str x.2.2.2.1, i64 x.2.2.2.2.1, .str x.2.2.2.2.2]]) (fun x : (List Fl) × (List Mc) × (List Tk) × Bs × Int × Bs => (x.1.length ≤ 1099511627776 ∧ ∀ f ∈ x.1, f.2.length ≤ 1099511627776) ∧ (x.2.1.length ≤ 1099511627776 ∧ ∀ m ∈ x.2.1, m.params.length ≤ 1099511627776) ∧ x.2.2.1.length ≤ 1099511627776) (fun x : (List Fl) × (List Mc) × (List Tk) × Bs × Int × Bs => .bool (few07 x.1 x.2.1 x.2.2.1 x.2.2.2.2.2))
theorem g_fewC_eq {fs : List Fl} {us : List Mc} {l : List Tk} {lp : Bs} {ln : Int} {tx : Bs} (hd : (fs.length ≤ 1099511627776 ∧ ∀ f ∈ fs, f.2.length ≤ 1099511627776) ∧ (us.length ≤ 1099511627776 ∧ ∀ m ∈ us, m.params.length ≤ 1099511627776) ∧ l.length ≤ 1099511627776) : g_fewC [.agg [.list (fs.map eFl), .list (us.map eMc), .list (l.map eTk), .str lp, .int .i64 ln, .str tx]] = some (.bool (few07 fs us l tx)) := encSpec_eq (x := (fs, us, l, lp, ln, tx)) hd fun y hy => by
    obtain ⟨y0, y1, y2, y3, y4, y5⟩ := y; simp only [List.cons.injEq, and_true, true_and, D.str.injEq, D.int.injEq, D.list.injEq, D.bool.injEq, D.agg.injEq, D.clo.injEq, Int.natCast_inj, inj_ie, D.ref.injEq, eU_e, eWd_e, eWd_ie, eWr_e, eWr_ie, eTk_ie, eTk_e, eFl_ie, eSp_ie, eSp_e, eMc_e, eMc_ie, hid_e] at hy
    (try obtain ⟨rfl, rfl, rfl, rfl, rfl, rfl⟩ := hy)
    (try subst_vars)
    rfl
theorem f_fewC_ok : PureOK Tryz.prog 15 true g_fewC := by
  have hΓ := Γp f_few3b_ok (Γp f_few7R_ok (Γp f_few5R_ok (Γp f_unit07_ok (Γn))))
  refine pure_enc (n := 22) (rs := [.tmp 2]) Tryz.func15 (by kernel_rfl) rfl (by kernel_rfl) (by kernel_rfl) ?_
  rintro ⟨fs, us, l, lp, ln, tx⟩ hd
  (try dsimp only at hd ⊢)
  refine ⟨fun _ => by (repeat (first | exact .int _ _ | exact .bool _ | exact .str _ | (refine .tup _ (fun d hd => ?_); simp only [List.mem_cons, List.not_mem_nil, or_false] at hd; rcases hd with rfl | hd))), fun k hz0 => ?_⟩
  obtain ⟨⟨d1, d2⟩, ⟨d3, d4⟩, d5⟩ := hd
  have e1 := g_few3b_eq (l := fs) (m := 8) (z := 3000) ⟨d1, d2, by decide, by decide⟩
  have e2 := g_few7R_eq (us := us) ⟨d3, d4⟩
  have e3 := g_few5R_eq (l := l) d5
  have e4 := g_unit07_eq (fs := fs) (us := us) (l := l) (lp := lp) (ln := ln) (tx := tx) trivial
  rw [eU_eq] at e2 e4
  unfold few07
  generalize few3 fs 8 3000 = c1 at *
  generalize few7 us = c2 at *
  generalize few5 l = c3 at *
  generalize hc : decide ((tx.length : Int) ≤ 300) = c4
  rw [start_frame (by simp)]; simp only [enumV, go_sem, emptyH]
  cases c1 <;> cases c2 <;> cases c3
  all_goals
    repeat (first
      | (apply axJ; (focus ((with_reducible constructor) <;> rfl)))
      | (apply awT mixedOK hΓ (by kernel_rfl); (simp (disch := omega) only [go_sem, ↓reduceIte, dk, ↓lk, Int.reduceBEq, Int.reduceBNe, Bool.true_bne, Bool.false_bne, Bool.not_true, Bool.not_false, e1, e2, e3, e4, hc] <;> with_reducible rfl))
      | ((first | apply awR hΓ | apply awG | apply awH mixedOK hΓ rfl (by kernel_rfl) | apply ovE rfl); (simp (disch := omega) only [go_sem, ↓reduceIte, dk, ↓lk, Int.reduceBEq, Int.reduceBNe, Bool.true_bne, Bool.false_bne, Bool.not_true, Bool.not_false, e1, e2, e3, e4, hc] <;> with_reducible rfl); exact trivial)
      | rfl)
    try rfl
theorem few3Go_d {z : Int} : ∀ {l : List Fl} {n : Int}, few3Go z n l = true → 0 ≤ n → ∀ f ∈ l, (f.2.length : Int) + n ≤ z
  | [], _, _, _, f, hf => by cases hf
  | x :: r, n, h, hn, f, hf => by
    rw [few3Go] at h
    split at h
    · cases h
    · rename_i hc
      simp only [Bool.or_eq_true, decide_eq_true_eq, not_or, Int.not_lt] at hc
      rcases List.mem_cons.1 hf with rfl | hf
      · omega
      · have := few3Go_d h (by omega) f hf
        omega
theorem few3_d {l : List Fl} (h : few3 l 8 3000 = true) : l.length ≤ 8 ∧ ∀ f ∈ l, f.2.length ≤ 3000 := by
  unfold few3 at h
  split at h
  · cases h
  · rename_i hc
    simp only [decide_eq_true_eq, Int.not_lt] at hc
    exact ⟨by omega, fun f hf => by have := few3Go_d h (by decide) f hf; omega⟩
theorem few7_d {us : List Mc} (h : few7 us = true) : us.length ≤ 20 ∧ ∀ m ∈ us, m.params.length ≤ 12 ∧ m.name.length ≤ 100 := by
  unfold few7 at h
  simp only [Bool.and_eq_true, decide_eq_true_eq, List.all_eq_true] at h
  refine ⟨by omega, fun m hm => ?_⟩
  have := h.1 m hm
  unfold fewM at this
  simp only [Bool.and_eq_true, Bool.not_eq_true', decide_eq_false_iff_not] at this
  omega
theorem few5_d {l : List Tk} (h : few5 l = true) : l.length ≤ 300 ∧ ∀ t ∈ l, t.2.length ≤ 50 := by
  unfold few5 at h
  simp only [Bool.and_eq_true, decide_eq_true_eq, List.all_eq_true, Bool.not_eq_true', decide_eq_false_iff_not] at h
  exact ⟨by omega, fun t ht => by have := h.1 t ht; omega⟩
theorem few07_d {fs : List Fl} {us : List Mc} {l : List Tk} {tx : Bs} (h : few07 fs us l tx = true) : (fs.length ≤ 8 ∧ ∀ f ∈ fs, f.2.length ≤ 3000) ∧ (us.length ≤ 20 ∧ ∀ m ∈ us, m.params.length ≤ 12 ∧ m.name.length ≤ 100) ∧ (l.length ≤ 300 ∧ ∀ t ∈ l, t.2.length ≤ 50) ∧ tx.length ≤ 300 := by
  unfold few07 at h
  simp only [Bool.and_eq_true, decide_eq_true_eq] at h
  exact ⟨few3_d h.1.1.1, few7_d h.1.1.2, few5_d h.1.2, by omega⟩
theorem loopG_len {fs : List Fl} {us : List Mc} : ∀ {k : Nat} {l : List Wd} {rd : List Sp}, (loopG fs us k l rd).1.1.length ≤ max l.length 256 ∧ (loopG fs us k l rd).1.2.length ≤ rd.length + k
  | k, l, rd => by
    rw [loopG_eq]
    split
    · exact ⟨by dsimp only; omega, by dsimp only; omega⟩
    · split
      · exact ⟨by simp, by simp⟩
      · rename_i i m _ _ k
        split
        · have h1 := loopG_len (fs := fs) (us := us) (k := k) (l := (replG fs m l i).1) (rd := rd ++ [m.body])
          have h2 := repl_len (fs := fs) (m := m) (l := l) (i := i)
          rw [List.length_append] at h1
          simp only [List.length_cons, List.length_nil] at h1
          omega
        · exact ⟨by simp, by simp⟩
  termination_by k => k
theorem lineG_len {fs : List Fl} {us : List Mc} {l : List Tk} : (lineG fs us l).1.1.length ≤ max l.length 256 ∧ (lineG fs us l).1.2.length ≤ 256 := by
  unfold lineG
  split
  · have h := loopG_len (fs := fs) (us := us) (k := 256) (l := w0 l) (rd := [])
    have h2 := setG_len (loopG fs us 256 (w0 l) []).1.2
    have h3 : (w0 l).length = l.length := by simp [w0]
    simp only [List.length_nil, h3] at h
    dsimp only
    rw [List.length_map]
    unfold w0 at h h2
    omega
  · exact ⟨by simp, by simp⟩
end Go.Ab
