/-
  One text of the proof (own work): contracts of functions of the program, by the abstract machine.
-/
import Derived.Test.YtdodjhiofpiaaaaDoorX19
import Derived.Test.YtdodjhiofpiaaaaDoorX40
set_option linter.unusedVariables false
set_option linter.unusedSimpArgs false
namespace Go.Ab
open Go Go.RowKit Go.Proofs Go.Shelf
set_option maxRecDepth 10000
set_option maxHeartbeats 16000000
theorem f_idxT_ok {dm : _ → Prop} {f : FuncId} {g : List D → Option D} {caps : List D} {p : _ → Bool} (hf : PureOK Tryd.prog f false g) (hp : ∀ x, dm x → g (eSt x :: caps) = some (.bool (p x))) : PureOK Tryd.prog 25 false (gIdxD eSt dm f caps p) := by
  have hΓ := Γc_ok hf
  refine pure_enc (n := 19) (rs := [.tmp 4]) Tryd.func25 (by kernel_rfl) rfl (by kernel_rfl) (by kernel_rfl) ?_
  rintro l ⟨hlen, hdm⟩
  refine ⟨fun _ => .int _ _, fun k hz0 => ?_⟩
  rw [start_frame (by simp)]; simp only [enumV, go_sem, emptyH]
  repeat (first
    | (apply axJ; (focus ((with_reducible constructor) <;> rfl)))
    | (apply awT mixedOK hΓ (by kernel_rfl); (simp (disch := omega) only [go_sem, ↓reduceIte, dk, ↓lk] <;> with_reducible rfl))
    | ((first | apply awR hΓ | apply awG | apply awH mixedOK hΓ rfl (by kernel_rfl) | apply ovE rfl); (simp (disch := omega) only [go_sem, ↓reduceIte, dk, ↓lk] <;> with_reducible rfl); exact trivial)
    | rfl)
  refine awp_loop_at (X := Nat) (fun i => (frame 19 [(0, .data (.list (l.map eSt))), (1, .data (.clo f caps)), (7, .data (i64 l.length)), (8, .data (i64 i))])) (fun _ => []) 9
    (fun i => i ≤ l.length ∧ (l.take i).any p = false) (fun i => l.length - i) 0 ⟨Nat.zero_le _, rfl⟩ (Weak.w) ?_
  rintro i ⟨hi, hpre⟩
  by_cases hi' : i < l.length
  · have hp' := hp _ (hdm _ (List.getElem_mem hi'))
    have hat := fun h => idx_at (p := p) hi' h hpre
    have hnx := fun h => any_next (p := p) hi' hpre h
    try simp only [go_sem] at hp'
    generalize hy : l[i] = y at *
    generalize p y = c at *
    cases c
    · repeat (first
      | (apply axJ; (focus ((with_reducible constructor) <;> rfl)))
      | (apply awT mixedOK hΓ (by kernel_rfl); (simp (disch := omega) only [go_sem, ↓reduceIte, dk, ↓lk, Γc, hp', hy, freeze_data] <;> with_reducible rfl))
      | ((first | apply awR hΓ | apply awG | apply awH mixedOK hΓ rfl (by kernel_rfl) | apply ovE rfl); (simp (disch := omega) only [go_sem, ↓reduceIte, dk, ↓lk, Γc, hp', hy, freeze_data] <;> with_reducible rfl); exact trivial)
      | rfl)
      exact ⟨i + 1, ⟨by omega, hnx rfl⟩, by omega, Weak.w⟩
    · rw [hat rfl]
      repeat (first
        | (apply axJ; (focus ((with_reducible constructor) <;> rfl)))
        | (apply awT mixedOK hΓ (by kernel_rfl); (simp (disch := omega) only [go_sem, ↓reduceIte, dk, ↓lk, Γc, hp', hy, freeze_data] <;> with_reducible rfl))
        | ((first | apply awR hΓ | apply awG | apply awH mixedOK hΓ rfl (by kernel_rfl) | apply ovE rfl); (simp (disch := omega) only [go_sem, ↓reduceIte, dk, ↓lk, Γc, hp', hy, freeze_data] <;> with_reducible rfl); exact trivial)
        | rfl)
      try rfl
  · have hi3 : i = l.length := by omega
    subst hi3
    rw [List.take_length] at hpre
    rw [idx_none hpre]
    repeat (first
      | (apply axJ; (focus ((with_reducible constructor) <;> rfl)))
      | (apply awT mixedOK hΓ (by kernel_rfl); (simp (disch := omega) only [go_sem, ↓reduceIte, dk, ↓lk] <;> with_reducible rfl))
      | ((first | apply awR hΓ | apply awG | apply awH mixedOK hΓ rfl (by kernel_rfl) | apply ovE rfl); (simp (disch := omega) only [go_sem, ↓reduceIte, dk, ↓lk] <;> with_reducible rfl); exact trivial)
      | rfl)
    try rfl
theorem f_anyT_ok {dm : _ → Prop} {f : FuncId} {g : List D → Option D} {caps : List D} {p : _ → Bool} (hf : PureOK Tryd.prog f false g) (hp : ∀ x, dm x → g (eSt x :: caps) = some (.bool (p x))) : PureOK Tryd.prog 11 false (gAnyD eSt dm f caps p) := by
  have hΓ := Γc_ok (f_idxT_ok (dm := dm) hf hp)
  refine pure_enc (n := 9) (rs := [.tmp 4]) Tryd.func11 (by kernel_rfl) rfl (by kernel_rfl) (by kernel_rfl) ?_
  rintro l ⟨hlen, hdm⟩
  refine ⟨fun _ => .bool _, fun k hz0 => ?_⟩
  have hi := gIdxD_eq (e := eSt) (dm := dm) eSt_inj (f := f) (caps := caps) (p := p) hlen hdm
  have hn := idx_nonneg p l
  generalize idx p l = n at *
  rw [← hn]
  rw [start_frame (by simp)]; simp only [enumV, go_sem, emptyH]
  generalize hc : decide (n ≥ 0) = c
  cases c
  · repeat (first
    | (apply axJ; (focus ((with_reducible constructor) <;> rfl)))
    | (apply awT mixedOK hΓ (by kernel_rfl); (simp (disch := omega) only [go_sem, ↓reduceIte, dk, ↓lk, Γc, hi, hc] <;> with_reducible rfl))
    | ((first | apply awR hΓ | apply awG | apply awH mixedOK hΓ rfl (by kernel_rfl) | apply ovE rfl); (simp (disch := omega) only [go_sem, ↓reduceIte, dk, ↓lk, Γc, hi, hc] <;> with_reducible rfl); exact trivial)
    | rfl)
    try rfl
  · repeat (first
    | (apply axJ; (focus ((with_reducible constructor) <;> rfl)))
    | (apply awT mixedOK hΓ (by kernel_rfl); (simp (disch := omega) only [go_sem, ↓reduceIte, dk, ↓lk, Γc, hi, hc] <;> with_reducible rfl))
    | ((first | apply awR hΓ | apply awG | apply awH mixedOK hΓ rfl (by kernel_rfl) | apply ovE rfl); (simp (disch := omega) only [go_sem, ↓reduceIte, dk, ↓lk, Γc, hi, hc] <;> with_reducible rfl); exact trivial)
    | rfl)
    try rfl
noncomputable def g_retC : List D → Option D := encSpec (fun x : Stp => [eSt x]) (fun x : Stp => PX x) (fun x : Stp => .bool (checkP x != 0))
theorem g_retC_eq {x : Stp} (hd : PX x) : g_retC [eSt x] = some (.bool (checkP x != 0)) := encSpec_eq (x := x) hd fun y hy => by
    simp only [List.cons.injEq, and_true, true_and, D.str.injEq, D.int.injEq, D.list.injEq, D.bool.injEq, D.agg.injEq, D.clo.injEq, Int.natCast_inj, inj_ie, eSt_ie, eSts_ie] at hy
    rw [hy]
theorem f_retC_ok : PureOK Tryd.prog 12 false g_retC := by
  have hΓ := Γp f_checkPr_ok (Γn)
  refine pure_enc (n := 6) (rs := [.tmp 2]) Tryd.func12 (by kernel_rfl) rfl (by kernel_rfl) (by kernel_rfl) ?_
  rintro x hd
  (try dsimp only at hd ⊢)
  refine ⟨fun h => (by cases h), fun k hz0 => ?_⟩
  have e1 := g_checkPr_eq hd
  generalize checkP x = c at *
  rw [eSt_eq] at e1 ⊢
  rw [start_frame (by simp)]; simp only [enumV, go_sem, emptyH]
  repeat (first
    | (apply axJ; (focus ((with_reducible constructor) <;> rfl)))
    | (apply awT mixedOK hΓ (by kernel_rfl); (simp (disch := omega) only [go_sem, ↓reduceIte, dk, ↓lk, e1] <;> with_reducible rfl))
    | ((first | apply awR hΓ | apply awG | apply awH mixedOK hΓ rfl (by kernel_rfl) | apply ovE rfl); (simp (disch := omega) only [go_sem, ↓reduceIte, dk, ↓lk, e1] <;> with_reducible rfl); exact trivial)
    | rfl)
  try rfl
theorem f_anyK_ok : PureOK Tryd.prog 11 false (gAnyD eSt PX 12 [] fun x => checkP x != 0) :=
  f_anyT_ok (dm := PX) f_retC_ok fun x hx => (congrArg g_retC (by rw [eSt_eq])).trans (g_retC_eq hx)
theorem print_len {l : List Stp} {s : Bs} (h : printPl l = (s, 0)) : s.length ≤ 65536 := by
  unfold printPl at h
  split at h
  · cases h
  · cases hp : prGo [] l with
    | none => rw [hp] at h; cases h
    | some ls =>
      rw [hp] at h
      exact (joinR_zero (show joinR (lnsOf ls) = (s, 0) from h)).2.2.2
noncomputable def g_lawRe : List D → Option D := encSpec (fun x : (List Stp) => [.list (x.map eSt)]) (fun x : (List Stp) => x.length ≤ 1099511627776 ∧ ∀ w ∈ x, StOK w) (fun x : (List Stp) => .bool true)
theorem f_lawRe_ok : PureOK Tryd.prog 3 true g_lawRe := by
  have hΓ := Γp f_awake_ok (Γp f_few14_ok (Γp f_printPr_ok (Γp f_parseP_ok (Γp f_sameAll14_ok (Γp f_anyK_ok (Γn))))))
  refine pure_enc (n := 44) (rs := [.tmp 2]) Tryd.func3 (by kernel_rfl) rfl (by kernel_rfl) (by kernel_rfl) ?_
  rintro l hd
  (try dsimp only at hd ⊢)
  refine ⟨fun _ => by (repeat (first | exact .int _ _ | exact .bool _ | exact .str _ | (refine .tup _ (fun d hd => ?_); simp only [List.mem_cons, List.not_mem_nil, or_false] at hd; rcases hd with rfl | hd))), fun k hz0 => ?_⟩
  have ea := g_awake_eq
  have e1 := g_few14_eq hd
  have hp := fun h => few_px (l := l) h
  generalize fewB l = c at *
  rw [start_frame (by simp)]; simp only [enumV, go_sem, emptyH]
  cases c
  · repeat (first
    | (apply axJ; (focus ((with_reducible constructor) <;> rfl)))
    | (apply awT mixedOK hΓ (by kernel_rfl); (simp (disch := omega) only [go_sem, ↓reduceIte, dk, ↓lk, Int.reduceBEq, Int.reduceBNe, Bool.true_bne, Bool.false_bne, Bool.not_true, Bool.not_false, ea, e1] <;> with_reducible rfl))
    | ((first | apply awR hΓ | apply awG | apply awH mixedOK hΓ rfl (by kernel_rfl) | apply ovE rfl); (simp (disch := omega) only [go_sem, ↓reduceIte, dk, ↓lk, Int.reduceBEq, Int.reduceBNe, Bool.true_bne, Bool.false_bne, Bool.not_true, Bool.not_false, ea, e1] <;> with_reducible rfl); exact trivial)
    | rfl)
    try rfl
  have hp := hp rfl
  have e2 := g_printPr_eq ⟨hd.1, hp⟩
  rcases hr : printPl l with ⟨s, e⟩
  rw [hr] at e2
  replace e2 : g_printPr [.list (l.map eSt)] = some (.tup [.str s, .int .i64 e]) := e2
  by_cases he : e = 0
  · subst he
    obtain ⟨h1, h2⟩ := print_parse hr
    have e3 := g_parseP_eq (s := s) (by have := print_len hr; omega)
    rw [h1] at e3
    replace e3 : g_parseP [.str s] = some (.tup [.list (l.map eSt), .int .i64 (-1), .int .i64 0]) := e3
    have e4 := g_sameAll14_eq (a := l) (b := l) ⟨hd, hd⟩
    rw [sameAll_rfl] at e4
    have e5 := gAnyD_eq (e := eSt) (dm := PX) eSt_inj (f := 12) (caps := []) (p := fun x => checkP x != 0) hd.1 hp
    have h3 : (l.any fun x => checkP x != 0) = false := List.any_eq_false.2 fun x hx => by rw [check_law, h2 x hx]; decide
    rw [h3] at e5
    repeat (first
      | (apply axJ; (focus ((with_reducible constructor) <;> rfl)))
      | (apply awT mixedOK hΓ (by kernel_rfl); (simp (disch := omega) only [go_sem, ↓reduceIte, dk, ↓lk, Int.reduceBEq, Int.reduceBNe, Bool.true_bne, Bool.false_bne, Bool.not_true, Bool.not_false, ea, e1, e2, e3, e4, e5] <;> with_reducible rfl))
      | ((first | apply awR hΓ | apply awG | apply awH mixedOK hΓ rfl (by kernel_rfl) | apply ovE rfl); (simp (disch := omega) only [go_sem, ↓reduceIte, dk, ↓lk, Int.reduceBEq, Int.reduceBNe, Bool.true_bne, Bool.false_bne, Bool.not_true, Bool.not_false, ea, e1, e2, e3, e4, e5] <;> with_reducible rfl); exact trivial)
      | rfl)
    try rfl
  · have hs := print_err hr he
    subst hs
    have hne : (e != 0) = true := by simpa [bne_iff_ne] using he
    repeat (first
      | (apply axJ; (focus ((with_reducible constructor) <;> rfl)))
      | (apply awT mixedOK hΓ (by kernel_rfl); (simp (disch := omega) only [go_sem, ↓reduceIte, dk, ↓lk, Int.reduceBEq, Int.reduceBNe, Bool.true_bne, Bool.false_bne, Bool.not_true, Bool.not_false, ea, e1, e2, hne] <;> with_reducible rfl))
      | ((first | apply awR hΓ | apply awG | apply awH mixedOK hΓ rfl (by kernel_rfl) | apply ovE rfl); (simp (disch := omega) only [go_sem, ↓reduceIte, dk, ↓lk, Int.reduceBEq, Int.reduceBNe, Bool.true_bne, Bool.false_bne, Bool.not_true, Bool.not_false, ea, e1, e2, hne] <;> with_reducible rfl); exact trivial)
      | rfl)
    try rfl
end Go.Ab
namespace Go.Ab
open Go Go.RowKit Go.Proofs Go.Shelf
set_option maxRecDepth 10000
set_option maxHeartbeats 8000000
theorem stepG_cases {P : Stp → Prop} (s : Bs) (l : List Gp) (h1 : P ⟨0, 1, gAt l 0, [], [], outR l⟩) (h2 : P ⟨0, 1, gAt l 0, [], gAt l 2, (gAt l 1).headD []⟩) (h3 : P ⟨0, 2, gAt l 0, [], [], outR l⟩)
    (h4 : P ⟨0, 3, gAt l 0, [], [], outR l⟩) (h5 : P ⟨0, 4, (gAt l 0).drop 1, [], (gAt l 0).take 1, outR l⟩) (h6 : P ⟨0, 4, (gAt l 0).drop 1, gAt l 1, (gAt l 0).take 1, outR l⟩)
    (h7 : P ⟨0, 5, [(gAt l 0).headD [], (gAt l 1).headD []], [], [], outR l⟩) (h8 : P ⟨0, 5, [(gAt l 0).headD [], (gAt l 2).headD []], gAt l 1, [], outR l⟩)
    (h9 : P ⟨0, 6, [(gAt l 0).headD [], (gAt l 1).headD []], [], [], outR l⟩) (h10 : P ⟨0, 7, gAt l 0, [], [], outR l⟩) (h11 : P ⟨0, 8, gAt l 0, [], [], outR l⟩) (h12 : P ⟨0, 0, [], [], [], []⟩) : P (stepG s l).1 := by
  unfold stepG
  by_cases c1 : cc1 s = true
  · rw [if_pos c1]; exact h1
  rw [if_neg c1]
  by_cases c2 : cc2 s = true
  · rw [if_pos c2]; exact h2
  rw [if_neg c2]
  by_cases c3 : cc3 s = true
  · rw [if_pos c3]; exact h3
  rw [if_neg c3]
  by_cases c4 : cc4 s = true
  · rw [if_pos c4]; exact h4
  rw [if_neg c4]
  by_cases c5 : cc5 s = true
  · rw [if_pos c5]; exact h5
  rw [if_neg c5]
  by_cases c6 : cc6 s = true
  · rw [if_pos c6]; exact h6
  rw [if_neg c6]
  by_cases c7 : cc7 s = true
  · rw [if_pos c7]; exact h7
  rw [if_neg c7]
  by_cases c8 : cc8 s = true
  · rw [if_pos c8]; exact h8
  rw [if_neg c8]
  by_cases c9 : cc9 s = true
  · rw [if_pos c9]; exact h9
  rw [if_neg c9]
  by_cases c10 : cc10 s = true
  · rw [if_pos c10]; exact h10
  rw [if_neg c10]
  by_cases c11 : cc11 s = true
  · rw [if_pos c11]; exact h11
  rw [if_neg c11]
  exact h12
end Go.Ab
namespace Go.Ab
open Go Go.RowKit Go.Proofs Go.Shelf
set_option maxRecDepth 10000
set_option maxHeartbeats 16000000
def rtrimB (c : UInt8) (t : Bs) : Bs := (t.reverse.dropWhile (· == c)).reverse
theorem rtrimB_nil (c : UInt8) : rtrimB c [] = [] := rfl
theorem rtrimB_snoc (c : UInt8) (u : Bs) (b : UInt8) : rtrimB c (u ++ [b]) = if b == c then rtrimB c u else u ++ [b] := by
  unfold rtrimB
  rw [List.reverse_append, List.reverse_singleton, List.singleton_append, List.dropWhile_cons]
  split
  · rfl
  · simp
noncomputable def g_trimRB : List D → Option D := encSpec (fun x : Bs × UInt8 => [.str x.1, u8 x.2.toNat]) (fun x : Bs × UInt8 => x.1.length ≤ 1099511627776) (fun x : Bs × UInt8 => .str (rtrimB x.2 x.1))
theorem g_trimRB_eq {s : Bs} {c : UInt8} (hd : s.length ≤ 1099511627776) : g_trimRB [.str s, .int .u8 c.toNat] = some (.str (rtrimB c s)) := encSpec_eq (x := (s, c)) hd fun y hy => by
    obtain ⟨y0, y1⟩ := y; simp only [List.cons.injEq, and_true, true_and, D.str.injEq, D.int.injEq, D.list.injEq, D.bool.injEq, D.agg.injEq, D.clo.injEq, Int.natCast_inj, inj_ie, eSt_ie, eSts_ie, UInt8.toNat_inj] at hy
    (try obtain ⟨rfl, rfl⟩ := hy)
    (try subst_vars)
    rfl
theorem f_trimRB_ok : PureOK Tryd.prog 29 true g_trimRB := by
  have hΓ := Γ0_ok
  refine pure_enc (n := 23) (rs := [.tmp 4]) Tryd.func29 (by kernel_rfl) rfl (by kernel_rfl) (by kernel_rfl) ?_
  rintro ⟨s, c⟩ hd
  (try dsimp only at hd ⊢)
  refine ⟨fun _ => by (repeat (first | exact .int _ _ | exact .bool _ | exact .str _ | (refine .tup _ (fun d hd => ?_); simp only [List.mem_cons, List.not_mem_nil, or_false] at hd; rcases hd with rfl | hd))), fun k hz0 => ?_⟩
  rw [start_frame (by simp)]; simp only [enumV, go_sem, emptyH]
  repeat (first
    | (apply axJ; (focus ((with_reducible constructor) <;> rfl)))
    | (apply awT mixedOK hΓ (by kernel_rfl); (simp (disch := omega) only [go_sem, ↓reduceIte, dk] <;> with_reducible rfl))
    | ((first | apply awR hΓ | apply awG | apply awH mixedOK hΓ rfl (by kernel_rfl) | apply ovE rfl); (simp (disch := omega) only [go_sem, ↓reduceIte, dk] <;> with_reducible rfl); exact trivial)
    | rfl)
  refine awp_loop_at (X := Bs) (fun r => (frame 23 [(0, .data (.str r)), (1, .data (u8 c.toNat))])) (fun _ => []) 1
    (fun r => r.length ≤ 1099511627776 ∧ rtrimB c s = rtrimB c r) (fun r => r.length) s ⟨hd, rfl⟩ (Weak.w) ?_
  rintro r ⟨h1, h2⟩
  (try dsimp only at h1 h2 ⊢)
  rcases List.eq_nil_or_concat r with hr | ⟨u, b, hr⟩
  · subst hr
    rw [h2, rtrimB_nil]
    have hp0 : decide ((([] : Bs).length : Int) > 0) = false := rfl
    repeat (first
      | (apply axJ; (focus ((with_reducible constructor) <;> rfl)))
      | (apply awT mixedOK hΓ (by kernel_rfl); (simp (disch := omega) only [go_sem, ↓reduceIte, dk, ↓lk, Int.reduceBEq, Int.reduceBNe, Bool.true_bne, Bool.false_bne, Bool.not_true, Bool.not_false, hp0] <;> with_reducible rfl))
      | ((first | apply awR hΓ | apply awG | apply awH mixedOK hΓ rfl (by kernel_rfl) | apply ovE rfl); (simp (disch := omega) only [go_sem, ↓reduceIte, dk, ↓lk, Int.reduceBEq, Int.reduceBNe, Bool.true_bne, Bool.false_bne, Bool.not_true, Bool.not_false, hp0] <;> with_reducible rfl); exact trivial)
      | rfl)
    try rfl
  · rw [List.concat_eq_append] at hr
    rw [hr, rtrimB_snoc] at h2
    have hlen : r.length = u.length + 1 := by rw [hr]; simp
    have hlast : ∀ h : u.length < r.length, r[u.length]'h = b := fun h => by simp [hr]
    have htk : r.take u.length = u := by rw [hr]; simp
    have hbe := byteEq b c
    have hp : decide ((r.length : Int) > 0) = true := decide_eq_true (by omega)
    have hm : (r.length : Int) - 1 = (u.length : Int) := by omega
    generalize hc : (b == c) = q at *
    cases q
    · simp only [Bool.false_eq_true, if_false] at h2
      rw [h2, ← hr]
      repeat (first
        | (apply axJ; (focus ((with_reducible constructor) <;> rfl)))
        | (apply awT mixedOK hΓ (by kernel_rfl); (simp (disch := omega) only [go_sem, ↓reduceIte, dk, ↓lk, Int.reduceBEq, Int.reduceBNe, Bool.true_bne, Bool.false_bne, Bool.not_true, Bool.not_false, hp, hm, hlast, hbe] <;> with_reducible rfl))
        | ((first | apply awR hΓ | apply awG | apply awH mixedOK hΓ rfl (by kernel_rfl) | apply ovE rfl); (simp (disch := omega) only [go_sem, ↓reduceIte, dk, ↓lk, Int.reduceBEq, Int.reduceBNe, Bool.true_bne, Bool.false_bne, Bool.not_true, Bool.not_false, hp, hm, hlast, hbe] <;> with_reducible rfl); exact trivial)
        | rfl)
      try rfl
    · simp only [if_true] at h2
      repeat (first
        | (apply axJ; (focus ((with_reducible constructor) <;> rfl)))
        | (apply awT mixedOK hΓ (by kernel_rfl); (simp (disch := omega) only [go_sem, ↓reduceIte, dk, ↓lk, Int.reduceBEq, Int.reduceBNe, Bool.true_bne, Bool.false_bne, Bool.not_true, Bool.not_false, hp, hm, hlast, hbe, htk, Nat.sub_zero, List.drop_zero] <;> with_reducible rfl))
        | ((first | apply awR hΓ | apply awG | apply awH mixedOK hΓ rfl (by kernel_rfl) | apply ovE rfl); (simp (disch := omega) only [go_sem, ↓reduceIte, dk, ↓lk, Int.reduceBEq, Int.reduceBNe, Bool.true_bne, Bool.false_bne, Bool.not_true, Bool.not_false, hp, hm, hlast, hbe, htk, Nat.sub_zero, List.drop_zero] <;> with_reducible rfl); exact trivial)
        | rfl)
      exact ⟨u, ⟨by omega, h2⟩, by omega, Weak.w⟩
noncomputable def g_trimR : List D → Option D := encSpec (fun x : Bs => [.str x, .str [10]]) (fun x : Bs => x.length ≤ 1099511627776) (fun x : Bs => .str (rtrim x))
theorem g_trimR_eq {s : Bs} (hd : s.length ≤ 1099511627776) : g_trimR [.str s, .str [10]] = some (.str (rtrim s)) := encSpec_eq (x := s) hd fun y hy => by
    simp only [List.cons.injEq, and_true, true_and, D.str.injEq, D.int.injEq, D.list.injEq, D.bool.injEq, D.agg.injEq, D.clo.injEq, Int.natCast_inj, inj_ie, eSt_ie, eSts_ie, UInt8.toNat_inj] at hy
    rw [hy]
theorem f_trimR_ok : PureOK Tryd.prog 16 true g_trimR := by
  have hΓ := Γp f_trimRB_ok (Γn)
  refine pure_enc (n := 37) (rs := [.tmp 4]) Tryd.func16 (by kernel_rfl) rfl (by kernel_rfl) (by kernel_rfl) ?_
  rintro s hd
  (try dsimp only at hd ⊢)
  refine ⟨fun _ => by (repeat (first | exact .int _ _ | exact .bool _ | exact .str _ | (refine .tup _ (fun d hd => ?_); simp only [List.mem_cons, List.not_mem_nil, or_false] at hd; rcases hd with rfl | hd))), fun k hz0 => ?_⟩
  have e1 := g_trimRB_eq (c := 10) hd
  rw [show rtrimB 10 s = rtrim s from rfl] at e1
  have h128 : decide (((10 : UInt8).toNat : Int) < 128) = true := rfl
  rw [start_frame (by simp)]; simp only [enumV, go_sem, emptyH]
  generalize hc : (s == []) = c
  cases c
  · have h10 : (([10] : Bs) == []) = false := rfl
    repeat (first
      | (apply axJ; (focus ((with_reducible constructor) <;> rfl)))
      | (apply awT mixedOK hΓ (by kernel_rfl); (simp (disch := omega) only [go_sem, ↓reduceIte, dk, ↓lk, Int.reduceBEq, Int.reduceBNe, Bool.true_bne, Bool.false_bne, Bool.not_true, Bool.not_false, Int.reduceToNat, List.getElem?_cons_zero, List.getElem?_cons_succ, hc, h10, h128, e1, List.length_cons, List.length_nil, Nat.zero_add, show (((1 : Nat) : Int) == 1) = true from rfl] <;> with_reducible rfl))
      | ((first | apply awR hΓ | apply awG | apply awH mixedOK hΓ rfl (by kernel_rfl) | apply ovE rfl); (simp (disch := omega) only [go_sem, ↓reduceIte, dk, ↓lk, Int.reduceBEq, Int.reduceBNe, Bool.true_bne, Bool.false_bne, Bool.not_true, Bool.not_false, Int.reduceToNat, List.getElem?_cons_zero, List.getElem?_cons_succ, hc, h10, h128, e1, List.length_cons, List.length_nil, Nat.zero_add, show (((1 : Nat) : Int) == 1) = true from rfl] <;> with_reducible rfl); exact trivial)
      | rfl)
    try rfl
  · have hs : s = [] := eq_of_beq hc
    subst hs
    repeat (first
      | (apply axJ; (focus ((with_reducible constructor) <;> rfl)))
      | (apply awT mixedOK hΓ (by kernel_rfl); (simp (disch := omega) only [go_sem, ↓reduceIte, dk, ↓lk, Int.reduceBEq, Int.reduceBNe, Bool.true_bne, Bool.false_bne, Bool.not_true, Bool.not_false] <;> with_reducible rfl))
      | ((first | apply awR hΓ | apply awG | apply awH mixedOK hΓ rfl (by kernel_rfl) | apply ovE rfl); (simp (disch := omega) only [go_sem, ↓reduceIte, dk, ↓lk, Int.reduceBEq, Int.reduceBNe, Bool.true_bne, Bool.false_bne, Bool.not_true, Bool.not_false] <;> with_reducible rfl); exact trivial)
      | rfl)
    try rfl
theorem gAt_le : ∀ (l : List Gp) (i : Nat), (listS (gAt l i)).length ≤ (listS (wordsG l)).length
  | [], i => by simp [gAt, listS]
  | g :: l, 0 => by
    show (listS g.words).length ≤ (listS ((g.name :: g.words) ++ wordsG l)).length
    rw [listS_append, listS, List.length_append, List.length_append]
    omega
  | g :: l, i + 1 => by
    have := gAt_le l i
    show (listS (gAt l i)).length ≤ (listS ((g.name :: g.words) ++ wordsG l)).length
    rw [listS_append, List.length_append]
    omega
theorem listS_two (a b : Bs) : (listS [a, b]).length = a.length + b.length + 2 := by
  simp [listS]
  omega
theorem listS_tk (l : List Bs) (i : Nat) : (listS (l.take i)).length ≤ (listS l).length := listS_le l i
theorem step_px {l : List Gp} (h : (listS (wordsG l)).length ≤ 40000) : PX (stepR l).1 := by
  have g := gAt_le l
  have hh := fun i => listS_hd (gAt l i)
  have ho : (outR l).length ≤ 100000 := by
    unfold outR
    split
    · have := g (l.length - 1); have := hh (l.length - 1); omega
    · simp
  have h0 := g 0
  have h1 := g 1
  have h2 := g 2
  have d0 := listS_ge (gAt l 0) 1
  have t0 := listS_tk (gAt l 0) 1
  have k0 := hh 0
  have k1 := hh 1
  have k2 := hh 2
  refine stepG_cases (P := PX) _ _ ?_ ?_ ?_ ?_ ?_ ?_ ?_ ?_ ?_ ?_ ?_ ?_
  all_goals
    refine ⟨?_, ?_, ?_, ?_⟩
    all_goals (dsimp only; first | exact ho | omega | (rw [listS_two]; omega) | (simp only [listS, List.length_nil]; omega))
theorem line_px {s : Bs} (h : s.length ≤ 30000) : PX (lineR s).1 := by
  have hz : PX zStp := ⟨by decide, by decide, by decide, by decide⟩
  have hne := splitB_ne 32 s
  have hj := split_join 32 s
  unfold lineR
  split
  · exact hz
  generalize splitB 32 s = ws at *
  have hws : ws.headD [] :: ws.tail = ws := by
    cases ws with
    | nil => exact absurd rfl hne
    | cons w r => rfl
  have hfl := gList_flat (ws.headD []) ws.tail
  rw [hws] at hfl
  have hls : (listS ws).length = s.length + 1 := by
    cases ws with
    | nil => exact absurd rfl hne
    | cons w r => rw [← join_S, hj]; simp
  have hp := step_px (l := gList (ws.headD []) ws.tail) (by rw [hfl, hls]; omega)
  unfold lineP lineS
  split
  · split
    · split
      · exact hz
      · exact hp
    · exact hz
  · exact hz
theorem go_px : ∀ (q : List Bs) (i : Nat) (acc : List Stp), (∀ w ∈ q, w.length ≤ 30000) → (∀ x ∈ acc, PX x) → ∀ x ∈ (parseGo i acc q).1, PX x
  | [], _, acc, _, ha => ha
  | w :: r, i, acc, hq, ha => by
    rw [parseGo]
    split
    · exact go_px r (i + 1) acc (fun v hv => hq v (by simp [hv])) ha
    · split
      · have hw := line_px (hq w (by simp))
        exact go_px r (i + 1) _ (fun v hv => hq v (by simp [hv])) (fun x hx => by
          rcases List.mem_append.1 hx with hx | hx
          · exact ha x hx
          · rw [List.mem_singleton.1 hx]; exact ⟨hw.i, hw.u, hw.w, hw.o⟩)
      · intro x hx; cases hx
theorem parse_px {s : Bs} {l : List Stp} {n e : Int} (h : s.length ≤ 30000) (hp : parseR s = (l, n, e)) : ∀ x ∈ l, PX x := by
  rw [parseR_if] at hp
  split at hp
  · have := go_px (splitB 10 s) 0 [] (fun w hw => Nat.le_trans (splitB_mem_len 10 s w hw) h) (fun x hx => by cases hx)
    rw [hp] at this
    exact this
  · cases hp
    intro x hx
    cases hx
noncomputable def g_lawPn : List D → Option D := encSpec (fun x : Bs => [.str x]) (fun x : Bs => x.length ≤ 1099511627776) (fun x : Bs => .bool true)
theorem f_lawPn_ok : PureOK Tryd.prog 5 true g_lawPn := by
  have hΓ := Γp f_awake_ok (Γp f_parseP_ok (Γp f_printPr_ok (Γp f_checkPt_ok (Γp f_cnt1_ok (Γp f_trimR_ok (Γn))))))
  refine pure_enc (n := 79) (rs := [.tmp 2]) Tryd.func5 (by kernel_rfl) rfl (by kernel_rfl) (by kernel_rfl) ?_
  rintro s hd
  (try dsimp only at hd ⊢)
  refine ⟨fun _ => by (repeat (first | exact .int _ _ | exact .bool _ | exact .str _ | (refine .tup _ (fun d hd => ?_); simp only [List.mem_cons, List.not_mem_nil, or_false] at hd; rcases hd with rfl | hd))), fun k hz0 => ?_⟩
  have ea := g_awake_eq
  rw [start_frame (by simp)]; simp only [enumV, go_sem, emptyH]
  by_cases hl : s.length ≤ 6000
  rotate_left
  · have hl1 : decide ((s.length : Int) > 6000) = true := decide_eq_true (by omega)
    repeat (first
      | (apply axJ; (focus ((with_reducible constructor) <;> rfl)))
      | (apply awT mixedOK hΓ (by kernel_rfl); (simp (disch := omega) only [go_sem, ↓reduceIte, dk, ↓lk, ea, hl1] <;> with_reducible rfl))
      | ((first | apply awR hΓ | apply awG | apply awH mixedOK hΓ rfl (by kernel_rfl) | apply ovE rfl); (simp (disch := omega) only [go_sem, ↓reduceIte, dk, ↓lk, ea, hl1] <;> with_reducible rfl); exact trivial)
      | rfl)
    try rfl
  have hl1 : decide ((s.length : Int) > 6000) = false := decide_eq_false (by omega)
  have e1 := g_parseP_eq (s := s) (by omega)
  have e2 := g_cnt1_eq (s := s) (b := 10) hd
  rw [show Lib.countByte s 10 = s.count 10 from rfl] at e2
  have e3 := g_trimR_eq hd
  obtain ⟨b1, b2⟩ := parseR_ok s (by omega)
  rcases hp : parseR s with ⟨l, n, e⟩
  rw [hp] at e1 b1 b2
  replace e1 : g_parseP [.str s] = some (.tup [.list (l.map eSt), .int .i64 n, .int .i64 e]) := e1
  dsimp only at b1 b2
  by_cases he : e = 0
  · subst he
    obtain ⟨_, h1, h2, h3⟩ := parse_print hp
    have hpx : ∀ x ∈ l, PX x := parse_px (by omega) hp
    have e4 := g_printPr_eq (l := l) ⟨by omega, hpx⟩
    rw [h1] at e4
    replace e4 : g_printPr [.list (l.map eSt)] = some (.tup [.str (rtrim s), .int .i64 0]) := e4
    have hbne : (rtrim s != rtrim s) = false := by simp
    repeat (first
      | (apply axJ; (focus ((with_reducible constructor) <;> rfl)))
      | (apply awT mixedOK hΓ (by kernel_rfl); (simp (disch := omega) only [go_sem, ↓reduceIte, dk, ↓lk, Int.reduceBEq, Int.reduceBNe, Bool.true_bne, Bool.false_bne, Bool.not_true, Bool.not_false, ea, hl1, e1, e3, e4, hbne] <;> with_reducible rfl))
      | ((first | apply awR hΓ | apply awG | apply awH mixedOK hΓ rfl (by kernel_rfl) | apply ovE rfl); (simp (disch := omega) only [go_sem, ↓reduceIte, dk, ↓lk, Int.reduceBEq, Int.reduceBNe, Bool.true_bne, Bool.false_bne, Bool.not_true, Bool.not_false, ea, hl1, e1, e3, e4, hbne] <;> with_reducible rfl); exact trivial)
      | rfl)
    refine awp_loop_at (X := Nat) (fun i => (frame 79 [(3, .data (.list (l.map eSt))), (53, .data (.list (l.map eSt))), (54, .data (i64 l.length)), (55, .data (i64 i))])) (fun _ => []) 15
      (fun i => i ≤ l.length) (fun i => l.length - i) 0 (Nat.zero_le _) (Weak.w) ?_
    intro i hi
    (try dsimp only at hi ⊢)
    by_cases hi2 : i < l.length
    · have hx := hpx _ (List.getElem_mem hi2)
      have e5 := g_checkPr_eq hx
      rw [check_law, h2 _ (List.getElem_mem hi2)] at e5
      have hpw : 0 < i → ∀ h : i - 1 < l.length, (l[i - 1]).line < (l[i]).line := fun h0 h => (List.pairwise_iff_getElem.1 h3) (i - 1) i h hi2 (by omega)
      generalize hy : l[i] = x at *
      rw [eSt_eq] at e5
      by_cases h0 : i = 0
      · have hip : decide ((i : Int) > 0) = false := decide_eq_false (by omega)
        repeat (first
          | (apply axJ; (focus ((with_reducible constructor) <;> rfl)))
          | (apply awT mixedOK hΓ (by kernel_rfl); (simp (disch := omega) only [go_sem, ↓reduceIte, dk, ↓lk, hy] <;> with_reducible rfl))
          | ((first | apply awR hΓ | apply awG | apply awH mixedOK hΓ rfl (by kernel_rfl) | apply ovE rfl); (simp (disch := omega) only [go_sem, ↓reduceIte, dk, ↓lk, hy] <;> with_reducible rfl); exact trivial)
          | rfl)
        (apply awp_regf mixedOK hΓ (by kernel_rfl); (simp (disch := omega) only [go_sem, ↓reduceIte, dk, ↓lk, Int.reduceBEq, Int.reduceBNe, Bool.true_bne, Bool.false_bne, Bool.not_true, Bool.not_false, hy, e5, hip] <;> with_reducible rfl); (simp only [go_sem] <;> with_reducible rfl))
        repeat (first
          | (apply axJ; (focus ((with_reducible constructor) <;> rfl)))
          | (apply awT mixedOK hΓ (by kernel_rfl); (simp (disch := omega) only [go_sem, ↓reduceIte, dk, ↓lk, Int.reduceBEq, Int.reduceBNe, Bool.true_bne, Bool.false_bne, Bool.not_true, Bool.not_false] <;> with_reducible rfl))
          | ((first | apply awR hΓ | apply awG | apply awH mixedOK hΓ rfl (by kernel_rfl) | apply ovE rfl); (simp (disch := omega) only [go_sem, ↓reduceIte, dk, ↓lk, Int.reduceBEq, Int.reduceBNe, Bool.true_bne, Bool.false_bne, Bool.not_true, Bool.not_false] <;> with_reducible rfl); exact trivial)
          | rfl)
        exact ⟨i + 1, by omega, by omega, Weak.w⟩
      · have hi1 : i - 1 < l.length := by omega
        have hlt := hpw (by omega) hi1
        have hcast : (i : Int) - 1 = ((i - 1 : Nat) : Int) := by omega
        have hip : decide ((i : Int) > 0) = true := decide_eq_true (by omega)
        generalize hyp : l[i - 1] = xp at *
        have hlt2 : decide (x.line ≤ xp.line) = false := decide_eq_false (by omega)
        repeat (first
          | (apply axJ; (focus ((with_reducible constructor) <;> rfl)))
          | (apply awT mixedOK hΓ (by kernel_rfl); (simp (disch := omega) only [go_sem, ↓reduceIte, dk, ↓lk, hy] <;> with_reducible rfl))
          | ((first | apply awR hΓ | apply awG | apply awH mixedOK hΓ rfl (by kernel_rfl) | apply ovE rfl); (simp (disch := omega) only [go_sem, ↓reduceIte, dk, ↓lk, hy] <;> with_reducible rfl); exact trivial)
          | rfl)
        (apply awp_regf mixedOK hΓ (by kernel_rfl); (simp (disch := omega) only [go_sem, ↓reduceIte, dk, ↓lk, Int.reduceBEq, Int.reduceBNe, Bool.true_bne, Bool.false_bne, Bool.not_true, Bool.not_false, hy, e5, hip, hcast, hyp, hlt2, eSt_eq] <;> with_reducible rfl); (simp only [go_sem] <;> with_reducible rfl))
        repeat (first
          | (apply axJ; (focus ((with_reducible constructor) <;> rfl)))
          | (apply awT mixedOK hΓ (by kernel_rfl); (simp (disch := omega) only [go_sem, ↓reduceIte, dk, ↓lk, Int.reduceBEq, Int.reduceBNe, Bool.true_bne, Bool.false_bne, Bool.not_true, Bool.not_false] <;> with_reducible rfl))
          | ((first | apply awR hΓ | apply awG | apply awH mixedOK hΓ rfl (by kernel_rfl) | apply ovE rfl); (simp (disch := omega) only [go_sem, ↓reduceIte, dk, ↓lk, Int.reduceBEq, Int.reduceBNe, Bool.true_bne, Bool.false_bne, Bool.not_true, Bool.not_false] <;> with_reducible rfl); exact trivial)
          | rfl)
        exact ⟨i + 1, by omega, by omega, Weak.w⟩
    · have hi3 : i = l.length := by omega
      subst hi3
      repeat (first
        | (apply axJ; (focus ((with_reducible constructor) <;> rfl)))
        | (apply awT mixedOK hΓ (by kernel_rfl); (simp (disch := omega) only [go_sem, ↓reduceIte, dk, ↓lk] <;> with_reducible rfl))
        | ((first | apply awR hΓ | apply awG | apply awH mixedOK hΓ rfl (by kernel_rfl) | apply ovE rfl); (simp (disch := omega) only [go_sem, ↓reduceIte, dk, ↓lk] <;> with_reducible rfl); exact trivial)
        | rfl)
      try rfl
  · obtain ⟨rfl, h2, h3⟩ := parse_err hp he
    have hne : (e != 0) = true := by simpa [bne_iff_ne] using he
    have hle : decide (n ≤ (s.count 10 : Int)) = true := decide_eq_true h3
    generalize hn : decide (n ≥ 0) = c
    cases c
    · have h10 : e = 10 := h2.resolve_left (fun h => by rw [decide_eq_true h] at hn; cases hn)
      subst h10
      repeat (first
        | (apply axJ; (focus ((with_reducible constructor) <;> rfl)))
        | (apply awT mixedOK hΓ (by kernel_rfl); (simp (disch := omega) only [go_sem, ↓reduceIte, dk, ↓lk, Int.reduceBEq, Int.reduceBNe, Bool.true_bne, Bool.false_bne, Bool.not_true, Bool.not_false, ea, hl1, e1, e2, hne, hn, hle, List.map_nil, List.length_nil, show (((0 : Nat) : Int) == 0) = true from rfl] <;> with_reducible rfl))
        | ((first | apply awR hΓ | apply awG | apply awH mixedOK hΓ rfl (by kernel_rfl) | apply ovE rfl); (simp (disch := omega) only [go_sem, ↓reduceIte, dk, ↓lk, Int.reduceBEq, Int.reduceBNe, Bool.true_bne, Bool.false_bne, Bool.not_true, Bool.not_false, ea, hl1, e1, e2, hne, hn, hle, List.map_nil, List.length_nil, show (((0 : Nat) : Int) == 0) = true from rfl] <;> with_reducible rfl); exact trivial)
        | rfl)
      try rfl
    · repeat (first
      | (apply axJ; (focus ((with_reducible constructor) <;> rfl)))
      | (apply awT mixedOK hΓ (by kernel_rfl); (simp (disch := omega) only [go_sem, ↓reduceIte, dk, ↓lk, Int.reduceBEq, Int.reduceBNe, Bool.true_bne, Bool.false_bne, Bool.not_true, Bool.not_false, ea, hl1, e1, e2, hne, hn, hle, List.map_nil, List.length_nil, show (((0 : Nat) : Int) == 0) = true from rfl] <;> with_reducible rfl))
      | ((first | apply awR hΓ | apply awG | apply awH mixedOK hΓ rfl (by kernel_rfl) | apply ovE rfl); (simp (disch := omega) only [go_sem, ↓reduceIte, dk, ↓lk, Int.reduceBEq, Int.reduceBNe, Bool.true_bne, Bool.false_bne, Bool.not_true, Bool.not_false, ea, hl1, e1, e2, hne, hn, hle, List.map_nil, List.length_nil, show (((0 : Nat) : Int) == 0) = true from rfl] <;> with_reducible rfl); exact trivial)
      | rfl)
      try rfl
end Go.Ab
