/-
  One text of the proof (own work): contracts of functions of the program, by the abstract machine.
-/
import Derived.Test.YtapnigckcnknoaaGreatDoorX12
import Derived.Test.YtapnigckcnknoaaGreatDoorX26
import Derived.Test.YtapnigckcnknoaaGreatDoorX23
import Derived.Test.YtapnigckcnknoaaGreatDoorX25
set_option linter.unusedVariables false
set_option linter.unusedSimpArgs false
namespace Go.Ab
open Go Go.RowKit Go.Proofs
set_option maxRecDepth 100000
set_option maxHeartbeats 40000000
def mostN (m : Mc) (body l : List Tk) : Nat → Nat
  | 0 => l.length
  | i + 1 => max (mostN m body l i) (((l.take (i + 1)).flatMap (simT m body)).length + (l.length - (i + 1)))
theorem most_over {m : Mc} {body l : List Tk} (hl : l.length ≤ 256) : ∀ i, i ≤ l.length → ((l.take i).flatMap (simT m body)).length + (l.length - i) ≤ mostN m body l i ∧
    (decide (mostN m body l i > 256) || overG m body.length ((l.take i).flatMap (simT m body)).length (l.drop i)) = overG m body.length 0 l
  | 0, _ => by
    refine ⟨by simp [mostN], ?_⟩
    rw [mostN, decide_eq_false (by omega)]
    rfl
  | i + 1, hi => by
    obtain ⟨h1, h2⟩ := most_over hl i (by omega)
    have hi2 : i < l.length := by omega
    rw [List.drop_eq_getElem_cons hi2, overG] at h2
    have ht : (l.take (i + 1)).flatMap (simT m body) = (l.take i).flatMap (simT m body) ++ simT m body l[i] := by
      rw [List.take_add_one, List.getElem?_eq_getElem hi2, List.flatMap_append]
      simp
    rw [mostN]
    refine ⟨by omega, ?_⟩
    rw [← h2, ht]
    rw [List.length_append]
    generalize ((l.take i).flatMap (simT m body)).length = n at *
    generalize mostN m body l i = M at *
    have hdl : (l.drop (i + 1)).length = l.length - (i + 1) := List.length_drop
    rw [hdl]
    unfold simT
    by_cases ht2 : isM m l[i] = true
    · rw [if_pos ht2, if_pos ht2]
      rw [← Bool.or_assoc]
      refine congrArg (fun b => b || _) ?_
      rw [Bool.eq_iff_iff]
      simp only [Bool.or_eq_true, decide_eq_true_eq]
      omega
    · rw [if_neg ht2, if_neg ht2]
      simp only [List.length_cons, List.length_nil]
      refine congrArg (fun b => b || _) ?_
      refine decide_eq_decide.2 ?_
      omega
theorem countP_take {l : List Tk} {p : Tk → Bool} {i : Nat} (hi : i < l.length) : (l.take (i + 1)).countP p = (l.take i).countP p + (if p l[i] then 1 else 0) := by
  rw [List.take_add_one, List.getElem?_eq_getElem hi, List.countP_append]
  simp [List.countP_cons]
theorem sim_take {m : Mc} {body l : List Tk} {i : Nat} (hi : i < l.length) : (l.take (i + 1)).flatMap (simT m body) = (l.take i).flatMap (simT m body) ++ simT m body l[i] := by
  rw [List.take_add_one, List.getElem?_eq_getElem hi, List.flatMap_append]
  simp
theorem sim_len {m : Mc} {body : List Tk} (hb : body.length ≤ 256) : ∀ l : List Tk, (l.flatMap (simT m body)).length ≤ l.length * 257
  | [] => by simp
  | t :: r => by
    have := sim_len (m := m) hb r
    rw [List.flatMap_cons, List.length_append, List.length_cons]
    unfold simT at this ⊢
    split
    · omega
    · simp only [List.length_cons, List.length_nil]; omega
theorem body_rng {fs : List Fl} {s : Sp} (h : (bodyB fs s).2 = 0) : 0 ≤ s.2.1 ∧ s.2.1 ≤ s.2.2 ∧ s.2.2 ≤ 1024 := by
  unfold bodyB at h
  split at h
  · split at h
    · rename_i h1 h2
      unfold bodyR at h
      split at h
      · cases h
      · rename_i h3
        simp only [Bool.or_eq_true, decide_eq_true_eq, not_or, gt_iff_lt, Int.not_lt] at h3
        have : (linesE (findF fs s.1).1).1.length ≤ 1024 := by
          unfold linesE at h2 ⊢
          split
          · simp
          · rename_i h4
            rw [if_neg h4] at h2
            split
            · simp
            · rename_i h5
              simp only [decide_eq_true_eq, gt_iff_lt, Int.not_lt] at h5
              dsimp only
              omega
        omega
    · rename_i h1 h2
      exact absurd (by simpa using h) h2
  · cases h
theorem body_err {fs : List Fl} {s : Sp} (h : (bodyB fs s).2 ≠ 0) : (bodyB fs s).1 = [] := by
  unfold bodyB at h ⊢
  split
  · rename_i h1
    rw [if_pos h1] at h
    split
    · rename_i h2
      rw [if_pos h2] at h
      unfold bodyR at h ⊢
      split
      · rfl
      · rename_i h3
        rw [if_neg h3] at h
        unfold bodyT at h ⊢
        split
        · rename_i h4
          rw [if_pos h4] at h
          split
          · rfl
          · rename_i h5
            rw [if_neg h5] at h
            exact absurd rfl h
        · rfl
    · rfl
  · rfl
theorem line_simF {fs : List Fl} {m : Mc} {body : List Tk} {l : List Tk} (hp : m.params = []) (hb : bodyB fs m.body = (body, 0)) (hv : allV l = true) :
    (mostN m body l l.length > 256 ∧ lineG fs [m] l = (([], []), 10)) ∨ (mostN m body l l.length ≤ 256 ∧ lineG fs [m] l = ((l.flatMap (simT m body), if full m.body && decide (l.countP (isM m) > 0) then [m.body] else []), 0)) := by
  have hl : l.length ≤ 256 := by
    unfold allV at hv
    simp only [Bool.and_eq_true, decide_eq_true_eq] at hv
    omega
  obtain ⟨_, h2⟩ := most_over (m := m) (body := body) hl l.length (Nat.le_refl _)
  rw [List.drop_length, overG, Bool.or_false] at h2
  rw [line_sim hp hb hv, ← h2, setG_rep]
  by_cases h : mostN m body l l.length > 256
  · exact .inl ⟨h, by rw [decide_eq_true h]; rfl⟩
  · exact .inr ⟨by omega, by rw [decide_eq_false h]; rfl⟩
noncomputable def g_law7s : List D → Option D := encSpec (fun x : (List Fl) × (List Mc) × (List Tk) × Bs × Int × Bs => [.agg [.list (x.1.map eFl), .list (x.2.1.map eMc), .list (x.2.2.1.map eTk), .str x.2.2.2.1, i64 x.2.2.2.2.1, .str x.2.2.2.2.2]]) (fun x : (List Fl) × (List Mc) × (List Tk) × Bs × Int × Bs => (x.1.length ≤ 1099511627776 ∧ ∀ f ∈ x.1, f.2.length ≤ 1099511627776) ∧ (x.2.1.length ≤ 1099511627776 ∧ ∀ m ∈ x.2.1, m.params.length ≤ 1099511627776) ∧ x.2.2.1.length ≤ 1099511627776) (fun x : (List Fl) × (List Mc) × (List Tk) × Bs × Int × Bs => .bool true)
theorem f_law7s_ok : PureOK Tryz.prog 5 true g_law7s := by
  have hΓ := Γp f_wk07_ok (Γp f_fewC_ok (Γp f_allVR_ok (Γp f_bodyP_ok (Γp f_lineP7_ok (Γp f_sameT_ok (Γn))))))
  refine pure_enc (n := 162) (rs := [.tmp 2]) Tryz.func5 (by kernel_rfl) rfl (by kernel_rfl) (by kernel_rfl) ?_
  rintro ⟨fs, us, l, lp, ln, tx⟩ hd
  (try dsimp only at hd ⊢)
  refine ⟨fun _ => by (repeat (first | exact .int _ _ | exact .bool _ | exact .str _ | (refine .tup _ (fun d hd => ?_); simp only [List.mem_cons, List.not_mem_nil, or_false] at hd; rcases hd with rfl | hd))), fun k hz0 => ?_⟩
  have e0 := g_wk07_eq
  have e1 := g_fewC_eq (fs := fs) (us := us) (l := l) (lp := lp) (ln := ln) (tx := tx) hd
  have hf := @few07_d fs us l tx
  generalize few07 fs us l tx = c at *
  rw [start_frame (by simp)]; simp only [enumV, go_sem, emptyH]
  cases c
  · repeat (first
    | (apply axJ; (focus ((with_reducible constructor) <;> rfl)))
    | (apply awT mixedOK hΓ (by kernel_rfl); (simp (disch := omega) only [go_sem, ↓reduceIte, dk, ↓lk, Int.reduceBEq, Int.reduceBNe, Bool.true_bne, Bool.false_bne, Bool.not_true, Bool.not_false, e0, e1] <;> with_reducible rfl))
    | ((first | apply awR hΓ | apply awG | apply awH mixedOK hΓ rfl (by kernel_rfl) | apply ovE rfl); (simp (disch := omega) only [go_sem, ↓reduceIte, dk, ↓lk, Int.reduceBEq, Int.reduceBNe, Bool.true_bne, Bool.false_bne, Bool.not_true, Bool.not_false, e0, e1] <;> with_reducible rfl); exact trivial)
    | rfl)
    try rfl
  obtain ⟨⟨f1, f2⟩, ⟨f3, f4⟩, ⟨f5, f6⟩, f7⟩ := hf rfl
  have e3 := g_allVR_eq (l := l) ⟨by omega, fun t ht => by have := f6 t ht; omega⟩
  by_cases hu : us.length = 0
  · have hz : ((us.length : Int) == 0) = true := by rw [hu]; rfl
    repeat (first
      | (apply axJ; (focus ((with_reducible constructor) <;> rfl)))
      | (apply awT mixedOK hΓ (by kernel_rfl); (simp (disch := omega) only [go_sem, ↓reduceIte, dk, ↓lk, Int.reduceBEq, Int.reduceBNe, Bool.true_bne, Bool.false_bne, Bool.not_true, Bool.not_false, e0, e1, hz] <;> with_reducible rfl))
      | ((first | apply awR hΓ | apply awG | apply awH mixedOK hΓ rfl (by kernel_rfl) | apply ovE rfl); (simp (disch := omega) only [go_sem, ↓reduceIte, dk, ↓lk, Int.reduceBEq, Int.reduceBNe, Bool.true_bne, Bool.false_bne, Bool.not_true, Bool.not_false, e0, e1, hz] <;> with_reducible rfl); exact trivial)
      | rfl)
    try rfl
  have hz : ((us.length : Int) == 0) = false := by rw [beq_eq_false_iff_ne]; omega
  cases hv : allV l
  · rw [hv] at e3
    repeat (first
      | (apply axJ; (focus ((with_reducible constructor) <;> rfl)))
      | (apply awT mixedOK hΓ (by kernel_rfl); (simp (disch := omega) only [go_sem, ↓reduceIte, dk, ↓lk, Int.reduceBEq, Int.reduceBNe, Bool.true_bne, Bool.false_bne, Bool.not_true, Bool.not_false, e0, e1, e3, hz] <;> with_reducible rfl))
      | ((first | apply awR hΓ | apply awG | apply awH mixedOK hΓ rfl (by kernel_rfl) | apply ovE rfl); (simp (disch := omega) only [go_sem, ↓reduceIte, dk, ↓lk, Int.reduceBEq, Int.reduceBNe, Bool.true_bne, Bool.false_bne, Bool.not_true, Bool.not_false, e0, e1, e3, hz] <;> with_reducible rfl); exact trivial)
      | rfl)
    try rfl
  rw [hv] at e3
  have hu1 : 0 < us.length := by omega
  obtain ⟨m0, hm0⟩ : ∃ m0, us[0] = m0 := ⟨_, rfl⟩
  have hmm : m0 ∈ us := hm0 ▸ List.getElem_mem hu1
  have f4m := f4 m0 hmm
  obtain ⟨m1, m2, m3, m4, m5⟩ := m0
  have e4 := g_bodyP_eq (fs := fs) (m := ⟨m1, [], (m3, m4, m5)⟩) ⟨by omega, fun f hf => by have := f2 f hf; omega⟩
  have hbl := body_len fs (m3, m4, m5)
  have hls := fun body => @line_simF fs ⟨m1, [], (m3, m4, m5)⟩ body l rfl
  have hbr := @body_rng fs (m3, m4, m5)
  have hbe := @body_err fs (m3, m4, m5)
  dsimp only at e4 hls hbr
  generalize bodyB fs (m3, m4, m5) = B at *
  obtain ⟨b, be⟩ := B
  dsimp only at hbl hbr hbe
  rw [eMc_eq] at e4
  replace e4 : g_bodyP [.list (fs.map eFl), .agg [.str m1, .list [], .str m3, .int .i64 m4, .int .i64 m5]] = some (.tup [.list (b.map eTk), .int .i64 be]) := e4
  repeat (first
    | (apply axJ; (focus ((with_reducible constructor) <;> rfl)))
    | (apply awT mixedOK hΓ (by kernel_rfl); (simp (disch := omega) only [go_sem, ↓reduceIte, dk, ↓lk, Int.reduceBEq, Int.reduceBNe, Bool.true_bne, Bool.false_bne, Bool.not_true, Bool.not_false, Int.reduceToNat, e0, e1, e3, hz, hm0] <;> with_reducible rfl))
    | ((first | apply awR hΓ | apply awG | apply awH mixedOK hΓ rfl (by kernel_rfl) | apply ovE rfl); (simp (disch := omega) only [go_sem, ↓reduceIte, dk, ↓lk, Int.reduceBEq, Int.reduceBNe, Bool.true_bne, Bool.false_bne, Bool.not_true, Bool.not_false, Int.reduceToNat, e0, e1, e3, hz, hm0] <;> with_reducible rfl); exact trivial)
    | rfl)
  refine awp_weak ((Weak.boxConv (o := 23) (cs' := [.data (.str m1), .data (.list []), .data (.str m3), .data (i64 m4), .data (i64 m5)]) rfl (by (repeat' (first | exact True.intro | apply And.intro | exact rfl | exact Or.inl rfl | exact Or.inr (Or.inl ⟨rfl, rfl⟩) | exact Or.inr (Or.inr ⟨_, _, rfl, rfl, by simp⟩))); done)).trans (show Weak _ _ _ ((frame 162 [(1, .ptr 0 0), (3, .ptr 23 0)])) ⟨[(0, .box [.data (.list (fs.map eFl)), .data (.list (us.map eMc)), .data (.list (l.map eTk)), .data (.str lp), .data (i64 ln), .data (.str tx)]), (23, .box [.data (.str m1), .data (.list []), .data (.str m3), .data (i64 m4), .data (i64 m5)])], 27⟩ from Weak.v (by (simp [ConvF, lookV, Conv, ints, upd, Heap.set, Heap.get, look]; done)) (by (simp (disch := omega) only [TabSub, look, if_pos, if_neg, Obj.refsOK, refsOKs, AV.refsOK, decide_eq_true_eq, Bool.and_true, Bool.and_self, upd, Heap.set, Heap.get, look] ) <;> ((repeat' apply And.intro) <;> first | exact True.intro | omega | (simp; done) | rfl)))) ?_
  by_cases hb0 : be = 0
  case neg =>
    have hb1 : (be != 0) = true := by simpa using hb0
    have hb2 : b = [] := hbe hb0
    subst hb2
    repeat (first
      | (apply axJ; (focus ((with_reducible constructor) <;> rfl)))
      | (apply awT mixedOK hΓ (by kernel_rfl); (simp (disch := omega) only [go_sem, ↓reduceIte, dk, ↓lk, Int.reduceBEq, Int.reduceBNe, Bool.true_bne, Bool.false_bne, Bool.not_true, Bool.not_false, e4, hb1, List.map_nil, List.length_nil] <;> with_reducible rfl))
      | ((first | apply awR hΓ | apply awG | apply awH mixedOK hΓ rfl (by kernel_rfl) | apply ovE rfl); (simp (disch := omega) only [go_sem, ↓reduceIte, dk, ↓lk, Int.reduceBEq, Int.reduceBNe, Bool.true_bne, Bool.false_bne, Bool.not_true, Bool.not_false, e4, hb1, List.map_nil, List.length_nil] <;> with_reducible rfl); exact trivial)
      | rfl)
    try rfl
  subst hb0
  have hl2 : l.length ≤ 256 := by
    unfold allV at hv
    simp only [Bool.and_eq_true, decide_eq_true_eq] at hv
    omega
  have hsl := fun i => sim_len (m := ⟨m1, [], (m3, m4, m5)⟩) hbl (l.take i)
  have hst := fun i hi => @sim_take ⟨m1, [], (m3, m4, m5)⟩ b l i hi
  have hct := fun i hi => @countP_take l (isM ⟨m1, [], (m3, m4, m5)⟩) i hi
  have hmu := fun i hi => (most_over (m := ⟨m1, [], (m3, m4, m5)⟩) (body := b) hl2 i hi).1
  have hmo : ∀ i, mostN ⟨m1, [], (m3, m4, m5)⟩ b l (i + 1) = max (mostN ⟨m1, [], (m3, m4, m5)⟩ b l i) (((l.take (i + 1)).flatMap (simT ⟨m1, [], (m3, m4, m5)⟩ b)).length + (l.length - (i + 1))) := fun i => rfl
  have hcl : ∀ i, (l.take i).countP (isM ⟨m1, [], (m3, m4, m5)⟩) ≤ i := fun i => Nat.le_trans List.countP_le_length (by rw [List.length_take]; omega)
  repeat (first
    | (apply axJ; (focus ((with_reducible constructor) <;> rfl)))
    | (apply awT mixedOK hΓ (by kernel_rfl); (simp (disch := omega) only [go_sem, ↓reduceIte, dk, ↓lk, Int.reduceBEq, Int.reduceBNe, Bool.true_bne, Bool.false_bne, Bool.not_true, Bool.not_false, e4] <;> with_reducible rfl))
    | ((first | apply awR hΓ | apply awG | apply awH mixedOK hΓ rfl (by kernel_rfl) | apply ovE rfl); (simp (disch := omega) only [go_sem, ↓reduceIte, dk, ↓lk, Int.reduceBEq, Int.reduceBNe, Bool.true_bne, Bool.false_bne, Bool.not_true, Bool.not_false, e4] <;> with_reducible rfl); exact trivial)
    | rfl)
  refine awp_weak (Weak.nilrowF (i := 6) 55 (sz := 2) (by omega) (by omega) rfl) ?_
  refine awp_loop_at (X := Nat) (fun i => (frame 162 [(1, .ptr 0 0), (3, .ptr 23 0), (4, .data (.list (b.map eTk))), (6, .row 52 ((l.take i).flatMap (simT ⟨m1, [], (m3, m4, m5)⟩ b)).length), (7, .data (i64 ((l.take i).countP (isM ⟨m1, [], (m3, m4, m5)⟩)))), (8, .data (i64 (mostN ⟨m1, [], (m3, m4, m5)⟩ b l i))), (9, .data (i64 ((l.length : Int) - i))), (59, .data (.list (l.map eTk))), (60, .data (i64 l.length)), (61, .data (i64 i))])) (fun i => [(0, .box [.data (.list (fs.map eFl)), .data (.list (us.map eMc)), .data (.list (l.map eTk)), .data (.str lp), .data (i64 ln), .data (.str tx)]), (23, .box [.data (.str m1), .data (.list []), .data (.str m3), .data (i64 m4), .data (i64 m5)]), (52, .row 55 2 (((l.take i).flatMap (simT ⟨m1, [], (m3, m4, m5)⟩ b)).map eTk))]) 53
    (fun i => i ≤ l.length) (fun i => l.length - i) 0 (Nat.zero_le _) (Weak.v (by (simp [ConvF, lookV, Conv, ints, upd, mostN]; done)) (by (simp (disch := omega) only [TabSub, look, if_pos, if_neg, Obj.refsOK, refsOKs, AV.refsOK, decide_eq_true_eq, Bool.and_true, Bool.and_self, upd, mostN] ) <;> ((repeat' apply And.intro) <;> first | exact True.intro | omega | (simp; done) | rfl))) ?_
  rintro i hi
  (try dsimp only at hi ⊢)
  by_cases hi2 : i < l.length
  · have ht : (l.take (i + 1)).flatMap (simT ⟨m1, [], (m3, m4, m5)⟩ b) = (l.take i).flatMap (simT ⟨m1, [], (m3, m4, m5)⟩ b) ++ (if l[i].1 == 1 && l[i].2 == m1 then b else [l[i]]) := hst i hi2
    have hcc : (l.take (i + 1)).countP (isM ⟨m1, [], (m3, m4, m5)⟩) = (l.take i).countP (isM ⟨m1, [], (m3, m4, m5)⟩) + (if l[i].1 == 1 && l[i].2 == m1 then 1 else 0) := hct i hi2
    have hm := hmo i
    have hs1 := hsl i
    have hc1 := hcl i
    have htl : (l.take i).length = i := by rw [List.length_take]; omega
    rw [htl] at hs1
    have hmb := hmu i (by omega)
    generalize hy : l[i] = y at *
    obtain ⟨y1, y2⟩ := y
    dsimp only at ht hcc
    generalize hW1 : (l.take (i + 1)).flatMap (simT ⟨m1, [], (m3, m4, m5)⟩ b) = W1 at ht hm
    generalize hC1 : (l.take (i + 1)).countP (isM ⟨m1, [], (m3, m4, m5)⟩) = C1 at hcc
    generalize hM1 : mostN ⟨m1, [], (m3, m4, m5)⟩ b l (i + 1) = M1 at hm
    generalize (l.take i).flatMap (simT ⟨m1, [], (m3, m4, m5)⟩ b) = W at *
    generalize (l.take i).countP (isM ⟨m1, [], (m3, m4, m5)⟩) = C at *
    generalize mostN ⟨m1, [], (m3, m4, m5)⟩ b l i = M at *
    have hmx : (M1 : Int) = max (M : Int) ((W1.length : Int) + ((l.length : Int) - (i : Int) - 1)) := by omega
    have hel : elemsOK 2 (W.map eTk) = true := elemsOK_tk W
    have hbm : W.length + b.length ≤ 1099511627776 := by omega
    cases k1 : (y1 == 1 && y2 == m1)
    · rw [k1] at ht hcc
      simp only [Bool.false_eq_true, if_false] at ht hcc
      have hl1 : W1.length = W.length + 1 := by rw [ht, List.length_append]; rfl
      have hmm1 : W1.map eTk = W.map eTk ++ [.agg [i64 y1, .str y2]] := by rw [ht, List.map_append]; rfl
      rw [hl1, Int.natCast_add, Int.natCast_one] at hmx
      cases k2 : (y1 == 1)
      · repeat (first
        | (apply axJ; (focus ((with_reducible constructor) <;> rfl)))
        | (apply awT mixedOK hΓ (by kernel_rfl); (simp (disch := omega) only [go_sem, ↓reduceIte, dk, ↓lk, Int.reduceBEq, Int.reduceBNe, Bool.true_bne, Bool.false_bne, Bool.not_true, Bool.not_false, hy, k2] <;> with_reducible rfl))
        | ((first | apply awR hΓ | apply awG | apply awH mixedOK hΓ rfl (by kernel_rfl) | apply ovE rfl); (simp (disch := omega) only [go_sem, ↓reduceIte, dk, ↓lk, Int.reduceBEq, Int.reduceBNe, Bool.true_bne, Bool.false_bne, Bool.not_true, Bool.not_false, hy, k2] <;> with_reducible rfl); exact trivial)
        | rfl)
        refine ⟨i + 1, by omega, by omega, ?_⟩
        rw [hW1, hC1, hM1, hmm1, hmx, hl1, hcc]
        exact Weak.v (by (simp [ConvF, lookV, Conv, ints, Int.sub_sub]; done)) (by (simp (disch := omega) only [TabSub, look, if_pos, if_neg, Obj.refsOK, refsOKs, AV.refsOK, decide_eq_true_eq, Bool.and_true, Bool.and_self, Int.sub_sub] ) <;> ((repeat' apply And.intro) <;> first | exact True.intro | omega | (simp; done) | rfl))
      · rw [k2, Bool.true_and] at k1
        repeat (first
          | (apply axJ; (focus ((with_reducible constructor) <;> rfl)))
          | (apply awT mixedOK hΓ (by kernel_rfl); (simp (disch := omega) only [go_sem, ↓reduceIte, dk, ↓lk, Int.reduceBEq, Int.reduceBNe, Bool.true_bne, Bool.false_bne, Bool.not_true, Bool.not_false, hy, k2, k1] <;> with_reducible rfl))
          | ((first | apply awR hΓ | apply awG | apply awH mixedOK hΓ rfl (by kernel_rfl) | apply ovE rfl); (simp (disch := omega) only [go_sem, ↓reduceIte, dk, ↓lk, Int.reduceBEq, Int.reduceBNe, Bool.true_bne, Bool.false_bne, Bool.not_true, Bool.not_false, hy, k2, k1] <;> with_reducible rfl); exact trivial)
          | rfl)
        refine ⟨i + 1, by omega, by omega, ?_⟩
        rw [hW1, hC1, hM1, hmm1, hmx, hl1, hcc]
        exact Weak.v (by (simp [ConvF, lookV, Conv, ints, Int.sub_sub]; done)) (by (simp (disch := omega) only [TabSub, look, if_pos, if_neg, Obj.refsOK, refsOKs, AV.refsOK, decide_eq_true_eq, Bool.and_true, Bool.and_self, Int.sub_sub] ) <;> ((repeat' apply And.intro) <;> first | exact True.intro | omega | (simp; done) | rfl))
    · rw [k1] at ht hcc
      simp only [if_true] at ht hcc
      have hl1 : W1.length = W.length + b.length := by rw [ht, List.length_append]
      have hmm1 : W1.map eTk = W.map eTk ++ b.map eTk := by rw [ht, List.map_append]
      rw [hl1, Int.natCast_add] at hmx
      simp only [Bool.and_eq_true] at k1
      obtain ⟨k2, k3⟩ := k1
      repeat (first
        | (apply axJ; (focus ((with_reducible constructor) <;> rfl)))
        | (apply awT mixedOK hΓ (by kernel_rfl); (simp (disch := omega) only [go_sem, ↓reduceIte, dk, ↓lk, Int.reduceBEq, Int.reduceBNe, Bool.true_bne, Bool.false_bne, Bool.not_true, Bool.not_false, hy, k2, k3] <;> with_reducible rfl))
        | ((first | apply awR hΓ | apply awG | apply awH mixedOK hΓ rfl (by kernel_rfl) | apply ovE rfl); (simp (disch := omega) only [go_sem, ↓reduceIte, dk, ↓lk, Int.reduceBEq, Int.reduceBNe, Bool.true_bne, Bool.false_bne, Bool.not_true, Bool.not_false, hy, k2, k3] <;> with_reducible rfl); exact trivial)
        | rfl)
      refine ⟨i + 1, by omega, by omega, ?_⟩
      rw [hW1, hC1, hM1, hmm1, hmx, hl1, hcc]
      exact Weak.v (by (simp [ConvF, lookV, Conv, ints, Int.sub_sub]; done)) (by (simp (disch := omega) only [TabSub, look, if_pos, if_neg, Obj.refsOK, refsOKs, AV.refsOK, decide_eq_true_eq, Bool.and_true, Bool.and_self, Int.sub_sub] ) <;> ((repeat' apply And.intro) <;> first | exact True.intro | omega | (simp; done) | rfl))
  have hi3 : i = l.length := by omega
  subst hi3
  have hcl1 := hcl l.length
  have hsl1 := hsl l.length
  have hls1 := hls b rfl hv
  rw [List.take_length] at hcl1 hsl1 ⊢
  have e5 := g_lineP7_eq (fs := fs) (us := [⟨m1, [], (m3, m4, m5)⟩]) (l := l) ⟨⟨⟨by omega, fun f hf => by have := f2 f hf; omega⟩, by simp, fun m hm => by simp only [List.mem_singleton] at hm; subst hm; simp; have := f4m.2; dsimp only at this; omega⟩, by omega, fun t ht => by have := f6 t ht; omega⟩
  rw [eU_eq] at e5
  unfold eLR at e5
  have e6 := g_sameT_eq (a := l.flatMap (simT ⟨m1, [], (m3, m4, m5)⟩ b)) (b := l.flatMap (simT ⟨m1, [], (m3, m4, m5)⟩ b)) ⟨by omega, by omega⟩
  rw [decide_eq_true rfl] at e6
  obtain ⟨hb1, hb2, hb3⟩ := hbr rfl
  have hR0 : ∀ C : Nat, ∃ R : List Sp, (if full (m3, m4, m5) && decide (C > 0) then [((m3, m4, m5) : Sp)] else []) = R ∧ (∀ s ∈ R, s = (m3, m4, m5)) ∧ R.length ≤ 1 ∧ (C > 0 → (R.length : Int) * (m5 - m4) = m5 - m4) ∧ (C = 0 → R = []) := fun C => by
    refine ⟨_, rfl, ?_, ?_, ?_, ?_⟩
    · intro s hs
      split at hs
      · simpa using hs
      · cases hs
    · split <;> simp
    · intro h
      rw [decide_eq_true h, Bool.and_true]
      split
      · simp
      · rename_i hf
        unfold full at hf
        simp only [decide_eq_true_eq, Int.not_lt] at hf
        have : m5 - m4 = 0 := by omega
        rw [this]
        simp
    · intro h
      rw [h]
      simp
  obtain ⟨R, hR1, hR2, hR3, hR4, hR5⟩ := hR0 (l.countP (isM ⟨m1, [], (m3, m4, m5)⟩))
  rw [hR1] at hls1
  generalize mostN ⟨m1, [], (m3, m4, m5)⟩ b l l.length = M at *
  generalize l.countP (isM ⟨m1, [], (m3, m4, m5)⟩) = C at *
  generalize l.flatMap (simT ⟨m1, [], (m3, m4, m5)⟩ b) = W at *
  generalize lineG fs [⟨m1, [], (m3, m4, m5)⟩] l = L at *
  have hC2 : decide ((C : Int) > 256) = false := decide_eq_false (by omega)
  repeat (first
    | (apply axJ; (focus ((with_reducible constructor) <;> rfl)))
    | (apply awT mixedOK hΓ (by kernel_rfl); (simp (disch := omega) only [go_sem, ↓reduceIte, dk, ↓lk, Int.reduceBEq, Int.reduceBNe, Bool.true_bne, Bool.false_bne, Bool.not_true, Bool.not_false] <;> with_reducible rfl))
    | ((first | apply awR hΓ | apply awG | apply awH mixedOK hΓ rfl (by kernel_rfl) | apply ovE rfl); (simp (disch := omega) only [go_sem, ↓reduceIte, dk, ↓lk, Int.reduceBEq, Int.reduceBNe, Bool.true_bne, Bool.false_bne, Bool.not_true, Bool.not_false] <;> with_reducible rfl); exact trivial)
    | rfl)
  refine awp_weak ((Weak.freeze (o := 52) rfl).trans (show Weak _ _ _ ((frame 162 [(1, .ptr 0 0), (3, .ptr 23 0), (6, .data (.list (W.map eTk))), (7, .data (i64 C)), (8, .data (i64 M))])) ⟨[(0, .box [.data (.list (fs.map eFl)), .data (.list (us.map eMc)), .data (.list (l.map eTk)), .data (.str lp), .data (i64 ln), .data (.str tx)]), (23, .box [.data (.str m1), .data (.list []), .data (.str m3), .data (i64 m4), .data (i64 m5)])], 60⟩ from Weak.v (by (simp [ConvF, lookV, Conv, ints, upd, Heap.set, Heap.get, look, List.length_map]; done)) (by (simp (disch := omega) only [TabSub, look, if_pos, if_neg, Obj.refsOK, refsOKs, AV.refsOK, decide_eq_true_eq, Bool.and_true, Bool.and_self, upd, Heap.set, Heap.get, look, List.length_map] ) <;> ((repeat' apply And.intro) <;> first | exact True.intro | omega | (simp; done) | rfl)))) ?_
  rcases hls1 with ⟨hM, hL⟩ | ⟨hM, hL⟩
  · subst hL
    have hM2 : decide ((M : Int) > 256) = true := decide_eq_true (by omega)
    dsimp only [List.map_nil] at e5
    replace e5 : g_lineP7 [.list (fs.map eFl), .agg [.str [], .list [], .list [.agg [.str m1, .list [], .str m3, .int .i64 m4, .int .i64 m5]], .list [], .list [], .list []], .list (l.map eTk)] = some (.tup [.list [], .list [], .int .i64 10]) := e5
    (repeat (first | refine awB ?_ | (apply axK; (focus ((with_reducible constructor) <;> rfl))) | ((first | apply awR hΓ | apply awG | apply ovE rfl); (simp (disch := omega) only [go_sem, ↓reduceIte, dk, ↓lk, Int.reduceBEq, Int.reduceBNe, Bool.true_bne, Bool.false_bne, Bool.not_true, Bool.not_false] <;> with_reducible rfl); exact trivial) | rfl))
    apply awp_regW (nst := false) (nst2 := false) 5 hΓ
    · simp (disch := omega) only [go_sem, ↓reduceIte, dk, ↓lk, Int.reduceBEq, Int.reduceBNe, Bool.true_bne, Bool.false_bne, Bool.not_true, Bool.not_false, ↓ty_build37, runTill, List.take_succ_cons, List.take_zero]
      rfl
    · exact ((Weak.freeze (o := 63) rfl).trans (Weak.aggF (i := 98) (ds := [.str [], .list [], .list [.agg [.str m1, .list [], .str m3, i64 m4, i64 m5]], .list [], .list [], .list []]) rfl (by (repeat' (first | exact True.intro | apply And.intro | exact rfl | exact Or.inl rfl | exact Or.inr (Or.inl ⟨rfl, rfl⟩) | exact Or.inr (Or.inr ⟨_, _, rfl, rfl, by simp⟩))); done) rfl)).trans (show Weak _ _ _ ((frame 162 [(1, .ptr 0 0), (3, .ptr 23 0), (6, .data (.list (W.map eTk))), (7, .data (i64 C)), (8, .data (i64 M)), (95, .data (.list (fs.map eFl))), (98, .data (.agg [.str [], .list [], .list [.agg [.str m1, .list [], .str m3, i64 m4, i64 m5]], .list [], .list [], .list []]))])) ⟨[(0, .box [.data (.list (fs.map eFl)), .data (.list (us.map eMc)), .data (.list (l.map eTk)), .data (.str lp), .data (i64 ln), .data (.str tx)]), (23, .box [.data (.str m1), .data (.list []), .data (.str m3), .data (i64 m4), .data (i64 m5)])], 65⟩ from Weak.v (by (simp [ConvF, lookV, Conv, ints, upd, Heap.set, Heap.get, look]; done)) (by (simp (disch := omega) only [TabSub, look, if_pos, if_neg, Obj.refsOK, refsOKs, AV.refsOK, decide_eq_true_eq, Bool.and_true, Bool.and_self, upd, Heap.set, Heap.get, look] ) <;> ((repeat' apply And.intro) <;> first | exact True.intro | omega | (simp; done) | rfl)))
    · simp (disch := omega) only [go_sem, ↓reduceIte, dk, ↓lk, Int.reduceBEq, Int.reduceBNe, Bool.true_bne, Bool.false_bne, Bool.not_true, Bool.not_false, ↓ty_build37, List.drop_succ_cons, List.drop_zero, e5]
      rfl
    repeat (first
      | (apply axJ; (focus ((with_reducible constructor) <;> rfl)))
      | (apply awT mixedOK hΓ (by kernel_rfl); (simp (disch := omega) only [go_sem, ↓reduceIte, dk, ↓lk, Int.reduceBEq, Int.reduceBNe, Bool.true_bne, Bool.false_bne, Bool.not_true, Bool.not_false, BEq.rfl, hC2, hM2, List.length_nil] <;> with_reducible rfl))
      | ((first | apply awR hΓ | apply awG | apply awH mixedOK hΓ rfl (by kernel_rfl) | apply ovE rfl); (simp (disch := omega) only [go_sem, ↓reduceIte, dk, ↓lk, Int.reduceBEq, Int.reduceBNe, Bool.true_bne, Bool.false_bne, Bool.not_true, Bool.not_false, BEq.rfl, hC2, hM2, List.length_nil] <;> with_reducible rfl); exact trivial)
      | rfl)
    try rfl
  · subst hL
    have hM2 : decide ((M : Int) > 256) = false := decide_eq_false (by omega)
    dsimp only at e5
    replace e5 : g_lineP7 [.list (fs.map eFl), .agg [.str [], .list [], .list [.agg [.str m1, .list [], .str m3, .int .i64 m4, .int .i64 m5]], .list [], .list [], .list []], .list (l.map eTk)] = some (.tup [.list (W.map eTk), .list (R.map eSp), .int .i64 0]) := e5
    (repeat (first | refine awB ?_ | (apply axK; (focus ((with_reducible constructor) <;> rfl))) | ((first | apply awR hΓ | apply awG | apply ovE rfl); (simp (disch := omega) only [go_sem, ↓reduceIte, dk, ↓lk, Int.reduceBEq, Int.reduceBNe, Bool.true_bne, Bool.false_bne, Bool.not_true, Bool.not_false] <;> with_reducible rfl); exact trivial) | rfl))
    apply awp_regW (nst := false) (nst2 := false) 5 hΓ
    · simp (disch := omega) only [go_sem, ↓reduceIte, dk, ↓lk, Int.reduceBEq, Int.reduceBNe, Bool.true_bne, Bool.false_bne, Bool.not_true, Bool.not_false, ↓ty_build37, runTill, List.take_succ_cons, List.take_zero]
      rfl
    · exact ((Weak.freeze (o := 63) rfl).trans (Weak.aggF (i := 98) (ds := [.str [], .list [], .list [.agg [.str m1, .list [], .str m3, i64 m4, i64 m5]], .list [], .list [], .list []]) rfl (by (repeat' (first | exact True.intro | apply And.intro | exact rfl | exact Or.inl rfl | exact Or.inr (Or.inl ⟨rfl, rfl⟩) | exact Or.inr (Or.inr ⟨_, _, rfl, rfl, by simp⟩))); done) rfl)).trans (show Weak _ _ _ ((frame 162 [(1, .ptr 0 0), (3, .ptr 23 0), (6, .data (.list (W.map eTk))), (7, .data (i64 C)), (8, .data (i64 M)), (95, .data (.list (fs.map eFl))), (98, .data (.agg [.str [], .list [], .list [.agg [.str m1, .list [], .str m3, i64 m4, i64 m5]], .list [], .list [], .list []]))])) ⟨[(0, .box [.data (.list (fs.map eFl)), .data (.list (us.map eMc)), .data (.list (l.map eTk)), .data (.str lp), .data (i64 ln), .data (.str tx)]), (23, .box [.data (.str m1), .data (.list []), .data (.str m3), .data (i64 m4), .data (i64 m5)])], 65⟩ from Weak.v (by (simp [ConvF, lookV, Conv, ints, upd, Heap.set, Heap.get, look]; done)) (by (simp (disch := omega) only [TabSub, look, if_pos, if_neg, Obj.refsOK, refsOKs, AV.refsOK, decide_eq_true_eq, Bool.and_true, Bool.and_self, upd, Heap.set, Heap.get, look] ) <;> ((repeat' apply And.intro) <;> first | exact True.intro | omega | (simp; done) | rfl)))
    · simp (disch := omega) only [go_sem, ↓reduceIte, dk, ↓lk, Int.reduceBEq, Int.reduceBNe, Bool.true_bne, Bool.false_bne, Bool.not_true, Bool.not_false, ↓ty_build37, List.drop_succ_cons, List.drop_zero, e5]
      rfl
    repeat (first
      | (apply axJ; (focus ((with_reducible constructor) <;> rfl)))
      | (apply awT mixedOK hΓ (by kernel_rfl); (simp (disch := omega) only [go_sem, ↓reduceIte, dk, ↓lk, Int.reduceBEq, Int.reduceBNe, Bool.true_bne, Bool.false_bne, Bool.not_true, Bool.not_false, BEq.rfl, hC2, hM2] <;> with_reducible rfl))
      | ((first | apply awR hΓ | apply awG | apply awH mixedOK hΓ rfl (by kernel_rfl) | apply ovE rfl); (simp (disch := omega) only [go_sem, ↓reduceIte, dk, ↓lk, Int.reduceBEq, Int.reduceBNe, Bool.true_bne, Bool.false_bne, Bool.not_true, Bool.not_false, BEq.rfl, hC2, hM2] <;> with_reducible rfl); exact trivial)
      | rfl)
    refine awp_loop_at (X := Nat) (fun i => (frame 162 [(3, .ptr 23 0), (6, .data (.list (W.map eTk))), (7, .data (i64 C)), (12, .data (.list (W.map eTk))), (14, .data (i64 0)), (15, .data (i64 (if i = 0 then 0 else m5 - m4))), (118, .data (.list (R.map eSp))), (119, .data (i64 R.length)), (120, .data (i64 i))])) (fun _ => [(23, .box [.data (.str m1), .data (.list []), .data (.str m3), .data (i64 m4), .data (i64 m5)])]) 90
      (fun i => i ≤ R.length) (fun i => R.length - i) 0 (Nat.zero_le _) (Weak.w) ?_
    rintro i hi
    (try dsimp only at hi ⊢)
    by_cases hi2 : i < R.length
    · have hi0 : i = 0 := by omega
      subst hi0
      have hy := hR2 R[0] (List.getElem_mem hi2)
      rw [if_pos rfl]
      repeat (first
        | (apply axJ; (focus ((with_reducible constructor) <;> rfl)))
        | (apply awT mixedOK hΓ (by kernel_rfl); (simp (disch := omega) only [go_sem, ↓reduceIte, dk, ↓lk, Int.reduceBEq, Int.reduceBNe, Bool.true_bne, Bool.false_bne, Bool.not_true, Bool.not_false, Int.reduceToNat, hy, Int.zero_add] <;> with_reducible rfl))
        | ((first | apply awR hΓ | apply awG | apply awH mixedOK hΓ rfl (by kernel_rfl) | apply ovE rfl); (simp (disch := omega) only [go_sem, ↓reduceIte, dk, ↓lk, Int.reduceBEq, Int.reduceBNe, Bool.true_bne, Bool.false_bne, Bool.not_true, Bool.not_false, Int.reduceToNat, hy, Int.zero_add] <;> with_reducible rfl); exact trivial)
        | rfl)
      exact ⟨1, by omega, by omega, by rw [if_neg (by decide)]; exact Weak.w⟩
    have hi3 : i = R.length := by omega
    subst hi3
    have hlv : ∃ v, (if R.length = 0 then 0 else m5 - m4) = v ∧ (C > 0 → v = m5 - m4) ∧ (C = 0 → v = 0) := ⟨_, rfl, fun h => by
      have := hR4 h
      split
      · rename_i h0
        rw [h0] at this
        simp at this
        exact this
      · rfl, fun h => by rw [hR5 h]; rfl⟩
    obtain ⟨v, hv1, hv2, hv3⟩ := hlv
    rw [hv1]
    by_cases hC : C > 0
    · have hC3 : decide ((C : Int) > 0) = true := decide_eq_true (by omega)
      have hv4 : (v == m5 - m4) = true := by rw [hv2 hC]; exact beq_self_eq_true _
      repeat (first
        | (apply axJ; (focus ((with_reducible constructor) <;> rfl)))
        | (apply awT mixedOK hΓ (by kernel_rfl); (simp (disch := omega) only [go_sem, ↓reduceIte, dk, ↓lk, Int.reduceBEq, Int.reduceBNe, Bool.true_bne, Bool.false_bne, Bool.not_true, Bool.not_false, BEq.rfl, e6, hC3, hv4] <;> with_reducible rfl))
        | ((first | apply awR hΓ | apply awG | apply awH mixedOK hΓ rfl (by kernel_rfl) | apply ovE rfl); (simp (disch := omega) only [go_sem, ↓reduceIte, dk, ↓lk, Int.reduceBEq, Int.reduceBNe, Bool.true_bne, Bool.false_bne, Bool.not_true, Bool.not_false, BEq.rfl, e6, hC3, hv4] <;> with_reducible rfl); exact trivial)
        | rfl)
      try rfl
    · have hC3 : decide ((C : Int) > 0) = false := decide_eq_false (by omega)
      have hC4 : ((C : Int) == 0) = true := by rw [beq_iff_eq]; omega
      have hv4 : (v == 0) = true := by rw [hv3 (by omega)]; rfl
      repeat (first
        | (apply axJ; (focus ((with_reducible constructor) <;> rfl)))
        | (apply awT mixedOK hΓ (by kernel_rfl); (simp (disch := omega) only [go_sem, ↓reduceIte, dk, ↓lk, Int.reduceBEq, Int.reduceBNe, Bool.true_bne, Bool.false_bne, Bool.not_true, Bool.not_false, BEq.rfl, e6, hC3, hC4, hv4] <;> with_reducible rfl))
        | ((first | apply awR hΓ | apply awG | apply awH mixedOK hΓ rfl (by kernel_rfl) | apply ovE rfl); (simp (disch := omega) only [go_sem, ↓reduceIte, dk, ↓lk, Int.reduceBEq, Int.reduceBNe, Bool.true_bne, Bool.false_bne, Bool.not_true, Bool.not_false, BEq.rfl, e6, hC3, hC4, hv4] <;> with_reducible rfl); exact trivial)
        | rfl)
      try rfl
end Go.Ab
namespace Go.Ab
open Go Go.RowKit Go.Proofs
set_option maxRecDepth 100000
set_option maxHeartbeats 40000000
end Go.Ab
namespace Go.Ab
open Go Go.RowKit Go.Proofs
set_option maxRecDepth 100000
set_option maxHeartbeats 40000000
structure DtX where
  l : List Tk
  fs : List Fl
  us : List Mc
  l0 : List Tk
  lp : Bs
  ln : Int
  tx : Bs
structure DtOK (y : DtX) : Prop where
  n : y.l.length ≤ 1000000
  u : y.us.length ≤ 1099511627776
end Go.Ab
namespace Go.Ab
open Go Go.RowKit Go.Proofs
set_option maxRecDepth 100000
set_option maxHeartbeats 40000000
theorem eq_nilT7 (ao : Option Addr) (n cap : Nat) (w : World) : (binOp BinOp.eql 38 (.slice ao n cap) (.slice none 0 0)).run Tryz.prog w = .ok (.bool ao.isNone) w := by
  have heq : ∀ k, (Op.equalIn (k + 1) 38 (.slice ao n cap) (.slice none 0 0)).run Tryz.prog w = .ok ao.isNone w := fun k => by
    simp only [Op.equalIn, Sem.run_bind, run_underlying ty_und38, Result.andThen_ok, Sem.run_pure]
    cases ao <;> simp
  have h2 : (Op.equal 38 (.slice ao n cap) (.slice none 0 0)).run Tryz.prog w = .ok ao.isNone w := heq 9999
  simp only [binOp, Sem.run_bind, h2, Result.andThen_ok, Sem.run_pure]
theorem callCloT7 (ao : Option Addr) (cap : Nat) (w : World) :
    Calls Tryz.prog 22 #[.slice ao 0 cap] w fun e w' => ∃ v, e = .returned v ∧ ownsM w' w.heap.size 55 2 v 0 [] ∧ Below w.heap.size w w' := by
  cases ao with
  | none =>
    go_enter Tryz.func22, Tryz.ntmps22
    go_wp2
    rw [eq_nilT7]
    simp only [Result.andThen]
    rw [Oper.upon_value]
    go_wp2
    go_ret
    exact ⟨_, rfl, ⟨rfl, .inl ⟨rfl, rfl⟩⟩, Below.refl _ _⟩
  | some a =>
    go_enter Tryz.func22, Tryz.ntmps22
    go_wp2
    rw [eq_nilT7]
    simp only [Result.andThen]
    rw [Oper.upon_value]
    go_wp2
    go_ret
    exact ⟨_, rfl, ownsM_lit w #[] 0 (Nat.le_refl _) (Nat.zero_le _) rfl, (Below.refl _ _).alloc (Nat.le_refl _) _⟩
theorem f_cloT7_ex : ∃ g, OwnOK Tryz.prog 22 g ∧ ∀ l : List Tk, l.length ≤ 1099511627776 ∧ l ≠ [] → ∃ m, m = l.map eTk ∧ g [.list (l.map eTk)] = some (55, 2, m) := by
  have hΓ := Γ0_ok
  refine own_ex (enc := fun l : List Tk => [.list (l.map eTk)]) (dom := fun l => l.length ≤ 1099511627776 ∧ l ≠ []) (good := fun l m => m = l.map eTk) (t := 55) (sz := 2) (n := 8) (rs := [.tmp 2]) (by omega) Tryz.func22 (by kernel_rfl) rfl (by kernel_rfl) (by kernel_rfl) (fun a b h => by
    simp only [List.cons.injEq, and_true, D.list.injEq] at h
    exact cast (eTk_ie _ _) h) ?_
  rintro l ⟨hl, hne⟩
  obtain ⟨x, l, rfl⟩ := List.exists_cons_of_ne_nil hne
  refine ⟨fun l' hm => hm ▸ elemsOK_map (f := eTk) (sz := 2) (fun _ => ⟨rfl, rfl⟩) _, ?_⟩
  rw [List.map_cons, eTk_eq]
  rw [start_frame (by simp)]; simp only [enumV, go_sem, emptyH]
  have hem : elemsOK 2 (l.map eTk) = true := elemsOK_map (f := eTk) (sz := 2) (fun _ => ⟨rfl, rfl⟩) l
  have hml : (l.map eTk).length + 1 ≤ 1099511627776 := by simpa using hl
  generalize l.map eTk = m at *
  (repeat (first | (apply axJ; (focus ((with_reducible constructor) <;> rfl))) | ((first | apply axR hΓ | apply axG | apply ovX rfl | apply ovE rfl); (simp (disch := omega) only [go_sem, ↓reduceIte, ↓lk, dk, hem] <;> with_reducible rfl); exact trivial) | rfl))
  exact reto_x (o := 3) (l := eTk x :: m) rfl (by simp [go_sem]) rfl rfl
open Classical in
noncomputable def g_cloT7 : List D → Option (TypeId × Nat × List D) := fun ds => if ds = [.list []] then some (55, 2, []) else f_cloT7_ex.choose ds
theorem g_cloT7_eq {l : List Tk} (h : l.length ≤ 1099511627776) : g_cloT7 [.list (l.map eTk)] = some (55, 2, l.map eTk) := by
  cases l with
  | nil => rw [List.map_nil]; exact if_pos rfl
  | cons x l =>
    obtain ⟨m, rfl, h2⟩ := f_cloT7_ex.choose_spec.2 (x :: l) ⟨h, by simp⟩
    rw [← h2]
    exact if_neg (by simp)
theorem f_cloT7_ok : OwnOK Tryz.prog 22 g_cloT7 := by
  intro ds e sz l hd
  unfold g_cloT7 at hd
  by_cases hds : ds = [.list []]
  · rw [if_pos hds] at hd
    cases hd
    subst hds
    refine ⟨by omega, by simp, by simp [flat], fun w B vs hB hz hvs => ⟨⟨_, Tryz.func22, rfl, rfl⟩, ?_⟩⟩
    obtain ⟨u, hu⟩ : ∃ u, vs[0]? = some u := ⟨_, Array.getElem?_eq_getElem (by simp at hz; omega)⟩
    obtain ⟨ao, cap, hv, _⟩ := (hvs 0 (by simp) u hu).list_inv
    have hvs2 : vs = #[.slice ao 0 cap] := by
      apply Array.ext_getElem?
      intro i
      match i with
      | 0 => rw [hu, hv]; rfl
      | i + 1 => rw [Array.getElem?_eq_none (by simp at hz; omega), Array.getElem?_eq_none (by simp)]
    rw [hvs2]
    refine (callCloT7 ao cap w).mono ?_
    rintro e w' ⟨v, rfl, ho, hb⟩
    exact ⟨_, rfl, ⟨[], ho, fun i hi => by simp [flat] at hi⟩, hb⟩
  · rw [if_neg hds] at hd
    exact f_cloT7_ex.choose_spec.1 ds e sz l hd
end Go.Ab
namespace Go.Ab
open Go Go.RowKit Go.Proofs
set_option maxRecDepth 4000
theorem argsGo_app : ∀ (Z : List Wd) (d : Nat) (one : List Wd) (out : List (List Wd)) (a : List (List Wd)) (r Y : List Wd), argsGo d one out Z = some (a, r) → argsGo d one out (Z ++ Y) = some (a, r ++ Y)
  | [], _, _, _, _, _, _, h => by simp [argsGo] at h
  | w :: Z, d, one, out, a, r, Y, h => by
    rw [argsGo] at h
    rw [List.cons_append, argsGo]
    split
    · rename_i h1
      rw [if_pos h1] at h
      split
      · rename_i h2
        rw [if_pos h2] at h
        cases h
      · rename_i h2
        rw [if_neg h2] at h
        split
        · rename_i h3
          rw [if_pos h3] at h
          simp only [Option.some.injEq, Prod.mk.injEq] at h
          rw [← h.1, ← h.2]
        · rename_i h3
          rw [if_neg h3] at h
          exact argsGo_app Z _ _ _ a r Y h
    · rename_i h1
      rw [if_neg h1] at h
      exact argsGo_app Z _ _ _ a r Y h
theorem argsG_app {Z : List Wd} {a : List (List Wd)} {r : List Wd} (Y : List Wd) (h : argsG Z = some (a, r)) : argsG (Z ++ Y) = some (a, r ++ Y) := by
  cases Z with
  | nil => cases h
  | cons w Z =>
    rw [argsG] at h
    rw [List.cons_append, argsG]
    split
    · rename_i h1
      rw [if_pos h1] at h
      exact argsGo_app Z _ _ _ a r Y h
    · rename_i h1
      rw [if_neg h1] at h
      cases h
theorem argsE_app {m : Mc} {Z : List Wd} (Y : List Wd) (h : (argsE m Z).2 = 0) : argsE m (Z ++ Y) = (((argsE m Z).1.1, (argsE m Z).1.2 ++ Y), 0) := by
  unfold argsE at h ⊢
  split
  · rfl
  · rename_i hp
    rw [if_neg hp] at h
    cases hg : argsG Z with
    | none => rw [hg] at h; cases h
    | some q =>
      obtain ⟨a, r⟩ := q
      rw [hg] at h
      rw [argsG_app Y hg]
      dsimp only at h ⊢
      split
      · rfl
      · rename_i hl
        rw [if_neg hl] at h
        cases h
structure ReplOK (fs : List Fl) (m : Mc) (l : List Wd) (i : Nat) (a : List (List Wd)) (r : List Wd) (b : List Tk) : Prop where
  args : argsE m (l.drop (i + 1)) = ((a, r), 0)
  body : bodyB fs m.body = (b, 0)
theorem ReplOK.eq {fs : List Fl} {m : Mc} {l : List Wd} {i : Nat} {a : List (List Wd)} {r : List Wd} {b : List Tk} (h : ReplOK fs m l i a r b) :
    replG fs m l i = if decide (((nowG m l i a r b).length : Int) > 256) then ([], 10) else (nowG m l i a r b, 0) := by
  unfold replG
  rw [h.args, h.body]
  rfl
theorem repl_ok {fs : List Fl} {m : Mc} {l : List Wd} {i : Nat} (h : (replG fs m l i).2 = 0) : ∃ a r b, ReplOK fs m l i a r b ∧ (replG fs m l i).1 = nowG m l i a r b := by
  have h0 := h
  unfold replG at h
  split at h
  · rename_i h1
    split at h
    · rename_i h2
      have h1' : (argsE m (l.drop (i + 1))).2 = 0 := by simpa using h1
      have h2' : (bodyB fs m.body).2 = 0 := by simpa using h2
      have hR : ReplOK fs m l i (argsE m (l.drop (i + 1))).1.1 (argsE m (l.drop (i + 1))).1.2 (bodyB fs m.body).1 := ⟨Prod.ext rfl h1', Prod.ext rfl h2'⟩
      refine ⟨_, _, _, hR, ?_⟩
      have e := hR.eq
      rw [e] at h0 ⊢
      split at h0
      · cases h0
      · rename_i h3
        rw [if_neg h3]
    · rename_i h2
      exact absurd (by simpa using h) h2
  · rename_i h1
    exact absurd (by simpa using h) h1
theorem now_app {m : Mc} {X : List Wd} {i : Nat} {a : List (List Wd)} {r Y : List Wd} {b : List Tk} (hi : i < X.length) : nowG m (X ++ Y) i a (r ++ Y) b = nowG m X i a r b ++ Y := by
  unfold nowG
  rw [List.take_append_of_le_length (by omega)]
  have hg : (X ++ Y).getD i ((0, []), []) = X.getD i ((0, []), []) := by
    rw [List.getD_eq_getElem?_getD, List.getD_eq_getElem?_getD, List.getElem?_append_left hi]
  rw [hg]
  simp only [List.append_assoc]
theorem repl_app {fs : List Fl} {m : Mc} {X : List Wd} {i : Nat} (Y : List Wd) (hi : i < X.length) (h : (replG fs m X i).2 = 0) :
    replG fs m (X ++ Y) i = if decide ((((replG fs m X i).1 ++ Y).length : Int) > 256) then ([], 10) else ((replG fs m X i).1 ++ Y, 0) := by
  obtain ⟨a, r, b, hR, e⟩ := repl_ok h
  have hR2 : ReplOK fs m (X ++ Y) i a (r ++ Y) b := by
    refine ⟨?_, hR.body⟩
    rw [List.drop_append_of_le_length (by omega), argsE_app Y (by rw [hR.args]), hR.args]
  rw [hR2.eq, e, now_app hi]
theorem repl_pre {fs : List Fl} {m : Mc} {Y : List Wd} {i : Nat} (P : List Wd) (h : (replG fs m Y i).2 = 0) :
    replG fs m (P ++ Y) (P.length + i) = if decide (((P ++ (replG fs m Y i).1).length : Int) > 256) then ([], 10) else (P ++ (replG fs m Y i).1, 0) := by
  obtain ⟨a, r, b, hR, e⟩ := repl_ok h
  have hR2 : ReplOK fs m (P ++ Y) (P.length + i) a r b := by
    refine ⟨?_, hR.body⟩
    rw [show P.length + i + 1 = P.length + (i + 1) by omega, List.drop_append, List.drop_eq_nil_of_le (by omega)]
    simp only [List.nil_append, Nat.add_sub_cancel_left]
    exact hR.args
  have hn : nowG m (P ++ Y) (P.length + i) a r b = P ++ nowG m Y i a r b := by
    unfold nowG
    have hg : (P ++ Y).getD (P.length + i) ((0, []), []) = Y.getD i ((0, []), []) := by
      rw [List.getD_eq_getElem?_getD, List.getD_eq_getElem?_getD, List.getElem?_append_right (by omega), Nat.add_sub_cancel_left]
    rw [hg, List.take_append, List.take_of_length_le (by omega), Nat.add_sub_cancel_left, List.append_assoc]
  rw [hR2.eq, e, hn]
theorem findG_app {us : List Mc} {X : List Wd} {i : Nat} {m : Mc} (Y : List Wd) (h : findG us X = some (i, m)) : findG us (X ++ Y) = some (i, m) := by
  obtain ⟨hi, h1, h2⟩ := findG_some h
  refine findG_at (by rw [List.length_append]; omega) ?_ ?_
  · rw [List.take_append_of_le_length (by omega)]
    exact h2
  · rw [List.getElem_append_left hi]
    exact h1
theorem findG_pre {us : List Mc} : ∀ {P : List Wd} (Y : List Wd), (∀ w ∈ P, meantB us w = none) → findG us (P ++ Y) = (findG us Y).map fun p => (P.length + p.1, p.2)
  | [], Y, _ => by
    simp
  | w :: P, Y, h => by
    rw [List.cons_append, findG, h w (by simp)]
    dsimp only
    rw [findG_pre Y (fun x hx => h x (by simp [hx])), Option.map_map]
    refine congrFun (congrArg _ (funext fun p => ?_)) _
    simp only [Function.comp_apply, List.length_cons, Prod.mk.injEq, and_true]
    omega
theorem loop_app {fs : List Fl} {us : List Mc} : ∀ (k : Nat) (X : List Wd) (rd : List Sp) (A : List Wd) (R : List Sp), loopG fs us k X rd = ((A, R), 0) → ∀ Y : List Wd, (∀ w ∈ A, meantB us w = none) ∧ (loopG fs us k (X ++ Y) rd = (([], []), 10) ∨ ∃ k', loopG fs us k (X ++ Y) rd = loopG fs us k' (A ++ Y) R) := by
  intro k
  induction k with
  | zero =>
    intro X rd A R h Y
    rw [loopG_eq] at h
    cases hf : findG us X with
    | none =>
      rw [hf] at h
      simp only [Prod.mk.injEq, and_true] at h
      obtain ⟨rfl, rfl⟩ := h
      exact ⟨findG_none.1 hf, .inr ⟨0, rfl⟩⟩
    | some q =>
      obtain ⟨i, m⟩ := q
      rw [hf] at h
      simp at h
  | succ k ih =>
    intro X rd A R h Y
    rw [loopG_eq] at h
    cases hf : findG us X with
    | none =>
      rw [hf] at h
      simp only [Prod.mk.injEq, and_true] at h
      obtain ⟨rfl, rfl⟩ := h
      exact ⟨findG_none.1 hf, .inr ⟨_, rfl⟩⟩
    | some q =>
      obtain ⟨i, m⟩ := q
      rw [hf] at h
      dsimp only at h
      split at h
      · rename_i h0
        have h0' : (replG fs m X i).2 = 0 := by simpa using h0
        obtain ⟨h1, h2⟩ := ih _ _ _ _ h Y
        refine ⟨h1, ?_⟩
        obtain ⟨hi, _, _⟩ := findG_some hf
        rw [loopG_eq, findG_app Y hf]
        dsimp only
        rw [repl_app Y hi h0']
        split
        · exact .inl rfl
        · exact h2
      · rename_i h0
        simp only [Prod.mk.injEq] at h
        exact absurd (by simpa using h.2) h0
theorem loop_pre {fs : List Fl} {us : List Mc} : ∀ (k : Nat) (Y : List Wd) (rd : List Sp) (B : List Wd) (S : List Sp), loopG fs us k Y rd = ((B, S), 0) → ∀ (P : List Wd) (k' : Nat) (rd' : List Sp), (∀ w ∈ P, meantB us w = none) →
    loopG fs us k' (P ++ Y) rd' = (([], []), 10) ∨ ∃ T, S = rd ++ T ∧ loopG fs us k' (P ++ Y) rd' = ((P ++ B, rd' ++ T), 0) := by
  intro k
  induction k with
  | zero =>
    intro Y rd B S h P k' rd' hP
    rw [loopG_eq] at h
    cases hf : findG us Y with
    | none =>
      rw [hf] at h
      simp only [Prod.mk.injEq, and_true] at h
      obtain ⟨rfl, rfl⟩ := h
      refine .inr ⟨[], by simp, ?_⟩
      rw [loopG_eq, findG_pre Y hP, hf]
      simp
    | some q =>
      obtain ⟨i, m⟩ := q
      rw [hf] at h
      simp at h
  | succ k ih =>
    intro Y rd B S h P k' rd' hP
    rw [loopG_eq] at h
    cases hf : findG us Y with
    | none =>
      rw [hf] at h
      simp only [Prod.mk.injEq, and_true] at h
      obtain ⟨rfl, rfl⟩ := h
      refine .inr ⟨[], by simp, ?_⟩
      rw [loopG_eq, findG_pre Y hP, hf]
      simp
    | some q =>
      obtain ⟨i, m⟩ := q
      rw [hf] at h
      dsimp only at h
      split at h
      · rename_i h0
        have h0' : (replG fs m Y i).2 = 0 := by simpa using h0
        rw [loopG_eq, findG_pre Y hP, hf]
        dsimp only [Option.map_some]
        cases k' with
        | zero => exact .inl rfl
        | succ k' =>
          dsimp only
          rw [repl_pre P h0']
          split
          · exact .inl rfl
          · rcases ih _ _ _ _ h P k' (rd' ++ [m.body]) hP with e | ⟨T, hT, e⟩
            · exact .inl e
            · refine .inr ⟨m.body :: T, by rw [hT]; simp, ?_⟩
              rw [show (if ((P ++ (replG fs m Y i).1, (0 : Int)).2 == 0) = true then loopG fs us k' (P ++ (replG fs m Y i).1, (0 : Int)).1 (rd' ++ [m.body]) else (([], []), (P ++ (replG fs m Y i).1, (0 : Int)).2)) = loopG fs us k' (P ++ (replG fs m Y i).1) (rd' ++ [m.body]) from rfl, e]
              simp
      · rename_i h0
        simp only [Prod.mk.injEq] at h
        exact absurd (by simpa using h.2) h0
theorem setG_app (a b : List Sp) : (setG b).foldl (fun x s => addN s x) (setG a) = setG (a ++ b) := by
  obtain ⟨a1, a2⟩ := setG_ok a
  obtain ⟨b1, b2⟩ := setG_ok b
  obtain ⟨c1, c2⟩ := setG_ok (a ++ b)
  obtain ⟨f1, f2⟩ := fold_ok (setG b) (setG a) b1.ne a1
  refine canon_eq f1 c1 fun p n => ?_
  rw [f2, c2, a2, b2]
  constructor
  · rintro (⟨s, hs, h⟩ | ⟨s, hs, h⟩)
    · exact ⟨s, List.mem_append.2 (.inl hs), h⟩
    · exact ⟨s, List.mem_append.2 (.inr hs), h⟩
  · rintro ⟨s, hs, h⟩
    rcases List.mem_append.1 hs with hs | hs
    · exact .inl ⟨s, hs, h⟩
    · exact .inr ⟨s, hs, h⟩
theorem line_ok {fs : List Fl} {us : List Mc} {l : List Tk} (h : (lineG fs us l).2 = 0) : ∃ A R, loopG fs us 256 (w0 l) [] = ((A, R), 0) ∧ lineG fs us l = ((A.map (·.1), setG R), 0) ∧ l.all (fun t => validB t.1 t.2) = true := by
  rw [lineG_eq] at h ⊢
  split at h
  · cases h
  · rename_i h1
    rw [if_neg h1]
    split at h
    · rename_i h2
      rw [if_pos h2]
      dsimp only at h
      refine ⟨_, _, Prod.ext rfl h, ?_, h2⟩
      rw [h]
    · cases h
theorem line_join {fs : List Fl} {us : List Mc} {a b : List Tk} (ha : (lineG fs us a).2 = 0) (hb : (lineG fs us b).2 = 0) (hl : (a ++ b).length ≤ 256) :
    lineG fs us (a ++ b) = (([], []), 10) ∨ lineG fs us (a ++ b) = (((lineG fs us a).1.1 ++ (lineG fs us b).1.1, (lineG fs us b).1.2.foldl (fun x s => addN s x) (lineG fs us a).1.2), 0) := by
  obtain ⟨A, R, h1, h2, h3⟩ := line_ok ha
  obtain ⟨B, S, k1, k2, k3⟩ := line_ok hb
  rw [h2, k2]
  dsimp only
  rw [setG_app, lineG_eq, if_neg (by simp only [decide_eq_true_eq]; omega), if_pos (by rw [List.all_append, h3, k3]; rfl)]
  have hw : w0 (a ++ b) = w0 a ++ w0 b := by simp [w0]
  rw [hw]
  obtain ⟨n1, n2⟩ := loop_app 256 _ _ _ _ h1 (w0 b)
  rcases n2 with e | ⟨k', e⟩
  · rw [e]
    exact .inl rfl
  · rw [e]
    rcases loop_pre 256 _ _ _ _ k1 A k' R n1 with e2 | ⟨T, hT, e2⟩
    · rw [e2]
      exact .inl rfl
    · rw [e2]
      rw [List.nil_append] at hT
      subst hT
      refine .inr ?_
      dsimp only
      rw [List.map_append]
end Go.Ab
