/-
  One text of the proof (own work): contracts of functions of the program, by the abstract machine.
-/
import Derived.Test.YtlfmbcjjojedgaaGreatDoorX19
import Derived.Test.YtlfmbcjjojedgaaGreatDoorX22
import Derived.Test.YtlfmbcjjojedgaaGreatDoorX37
set_option linter.unusedVariables false
set_option linter.unusedSimpArgs false
namespace Go.Ab
open Go Go.RowKit Go.Proofs
set_option maxRecDepth 10000
set_option maxHeartbeats 8000000
noncomputable def g_edgeR : List D → Option D := encSpec (fun x : UInt8 => [u8 x.toNat]) (fun x : UInt8 => True) (fun x : UInt8 => .bool (edgeB x))
theorem g_edgeR_eq {b : UInt8} (hd : True) : g_edgeR [.int .u8 b.toNat] = some (.bool (edgeB b)) := encSpec_eq (x := b) hd fun y hy => by
    simp only [List.cons.injEq, and_true, true_and, D.str.injEq, D.int.injEq, D.list.injEq, D.bool.injEq, D.agg.injEq, D.clo.injEq, Int.natCast_inj, inj_ie, UInt8.toNat_inj] at hy
    rw [hy]
theorem f_edgeR_ok : PureOK Tryz.prog 86 true g_edgeR := by
  have hΓ := Γ0_ok
  refine pure_enc (n := 17) (rs := [.tmp 2]) Tryz.func86 (by kernel_rfl) rfl (by kernel_rfl) (by kernel_rfl) ?_
  rintro b hd
  (try dsimp only at hd ⊢)
  refine ⟨fun _ => by (repeat (first | exact .int _ _ | exact .bool _ | exact .str _ | (refine .tup _ (fun d hd => ?_); simp only [List.mem_cons, List.not_mem_nil, or_false] at hd; rcases hd with rfl | hd))), fun k hz0 => ?_⟩
  have h1 : ((b.toNat : Int) == 32) = (b == 32) := byteEq b 32
  have h2 : ((b.toNat : Int) == 9) = (b == 9) := byteEq b 9
  have h3 : ((b.toNat : Int) == 42) = (b == 42) := byteEq b 42
  have h4 : ((b.toNat : Int) == 47) = (b == 47) := byteEq b 47
  unfold edgeB
  generalize (b == 32) = c1 at *
  generalize (b == 9) = c2 at *
  generalize (b == 42) = c3 at *
  generalize (b == 47) = c4 at *
  rw [start_frame (by simp)]; simp only [enumV, go_sem, emptyH]
  cases c1
  rotate_left
  · ((repeat (first | (apply axJ; (focus ((with_reducible constructor) <;> rfl))) | (apply awT mixedOK hΓ (by kernel_rfl); (simp (disch := omega) only [go_sem, ↓reduceIte, dk, ↓lk, Int.reduceBEq, Int.reduceBNe, Bool.true_bne, Bool.false_bne, Bool.not_true, Bool.not_false, h1, h2, h3, h4] <;> with_reducible rfl)) | ((first | apply awR hΓ | apply awG | apply awH mixedOK hΓ rfl (by kernel_rfl) | apply ovE rfl); (simp (disch := omega) only [go_sem, ↓reduceIte, dk, ↓lk, Int.reduceBEq, Int.reduceBNe, Bool.true_bne, Bool.false_bne, Bool.not_true, Bool.not_false, h1, h2, h3, h4] <;> with_reducible rfl); exact trivial) | rfl)); (first | done | rfl))
  cases c2
  rotate_left
  · ((repeat (first | (apply axJ; (focus ((with_reducible constructor) <;> rfl))) | (apply awT mixedOK hΓ (by kernel_rfl); (simp (disch := omega) only [go_sem, ↓reduceIte, dk, ↓lk, Int.reduceBEq, Int.reduceBNe, Bool.true_bne, Bool.false_bne, Bool.not_true, Bool.not_false, h1, h2, h3, h4] <;> with_reducible rfl)) | ((first | apply awR hΓ | apply awG | apply awH mixedOK hΓ rfl (by kernel_rfl) | apply ovE rfl); (simp (disch := omega) only [go_sem, ↓reduceIte, dk, ↓lk, Int.reduceBEq, Int.reduceBNe, Bool.true_bne, Bool.false_bne, Bool.not_true, Bool.not_false, h1, h2, h3, h4] <;> with_reducible rfl); exact trivial) | rfl)); (first | done | rfl))
  cases c3
  rotate_left
  · ((repeat (first | (apply axJ; (focus ((with_reducible constructor) <;> rfl))) | (apply awT mixedOK hΓ (by kernel_rfl); (simp (disch := omega) only [go_sem, ↓reduceIte, dk, ↓lk, Int.reduceBEq, Int.reduceBNe, Bool.true_bne, Bool.false_bne, Bool.not_true, Bool.not_false, h1, h2, h3, h4] <;> with_reducible rfl)) | ((first | apply awR hΓ | apply awG | apply awH mixedOK hΓ rfl (by kernel_rfl) | apply ovE rfl); (simp (disch := omega) only [go_sem, ↓reduceIte, dk, ↓lk, Int.reduceBEq, Int.reduceBNe, Bool.true_bne, Bool.false_bne, Bool.not_true, Bool.not_false, h1, h2, h3, h4] <;> with_reducible rfl); exact trivial) | rfl)); (first | done | rfl))
  repeat (first
    | (apply axJ; (focus ((with_reducible constructor) <;> rfl)))
    | (apply awT mixedOK hΓ (by kernel_rfl); (simp (disch := omega) only [go_sem, ↓reduceIte, dk, ↓lk, Int.reduceBEq, Int.reduceBNe, Bool.true_bne, Bool.false_bne, Bool.not_true, Bool.not_false, h1, h2, h3, h4] <;> with_reducible rfl))
    | ((first | apply awR hΓ | apply awG | apply awH mixedOK hΓ rfl (by kernel_rfl) | apply ovE rfl); (simp (disch := omega) only [go_sem, ↓reduceIte, dk, ↓lk, Int.reduceBEq, Int.reduceBNe, Bool.true_bne, Bool.false_bne, Bool.not_true, Bool.not_false, h1, h2, h3, h4] <;> with_reducible rfl); exact trivial)
    | rfl)
  try rfl
theorem okT_i (y : UInt8) {m : Int} (hm : (y.toNat : Int) = m) : okT y = !(decide (m < 32) || decide (m > 126)) := by
  unfold okT
  subst hm
  rw [Bool.eq_iff_iff]
  simp
  omega
noncomputable def g_textR36 : List D → Option D := encSpec (fun x : Bs => [.str x]) (fun x : Bs => x.length ≤ 1099511627776) (fun x : Bs => .bool (isT x))
theorem g_textR36_eq {s : Bs} (hd : s.length ≤ 1099511627776) : g_textR36 [.str s] = some (.bool (isT s)) := encSpec_eq (x := s) hd fun y hy => by
    simp only [List.cons.injEq, and_true, true_and, D.str.injEq, D.int.injEq, D.list.injEq, D.bool.injEq, D.agg.injEq, D.clo.injEq, Int.natCast_inj, inj_ie, UInt8.toNat_inj] at hy
    rw [hy]
theorem f_textR36_ok : PureOK Tryz.prog 62 true g_textR36 := by
  have hΓ := Γp f_edgeR_ok (Γn)
  refine pure_enc (n := 41) (rs := [.tmp 2]) Tryz.func62 (by kernel_rfl) rfl (by kernel_rfl) (by kernel_rfl) ?_
  rintro s hd
  (try dsimp only at hd ⊢)
  refine ⟨fun _ => by (repeat (first | exact .int _ _ | exact .bool _ | exact .str _ | (refine .tup _ (fun d hd => ?_); simp only [List.mem_cons, List.not_mem_nil, or_false] at hd; rcases hd with rfl | hd))), fun k hz0 => ?_⟩
  by_cases h0 : s.length = 0
  · have hs : s = [] := List.eq_nil_of_length_eq_zero h0
    subst hs
    rw [show isT [] = false from rfl]
    rw [start_frame (by simp)]; simp only [enumV, go_sem, emptyH]
    repeat (first
      | (apply axJ; (focus ((with_reducible constructor) <;> rfl)))
      | (apply awT mixedOK hΓ (by kernel_rfl); (simp (disch := omega) only [go_sem, ↓reduceIte, dk, ↓lk, Int.reduceBEq, Int.reduceBNe, Bool.true_bne, Bool.false_bne, Bool.not_true, Bool.not_false] <;> with_reducible rfl))
      | ((first | apply awR hΓ | apply awG | apply awH mixedOK hΓ rfl (by kernel_rfl) | apply ovE rfl); (simp (disch := omega) only [go_sem, ↓reduceIte, dk, ↓lk, Int.reduceBEq, Int.reduceBNe, Bool.true_bne, Bool.false_bne, Bool.not_true, Bool.not_false] <;> with_reducible rfl); exact trivial)
      | rfl)
    try rfl
  have hpos : 0 < s.length := by omega
  rw [isT_ref hpos]
  have e0 := g_edgeR_eq (b := s[0]) trivial
  have e1 := g_edgeR_eq (b := s[s.length - 1]) trivial
  have hn : (s.length : Int) - 1 = ((s.length - 1 : Nat) : Int) := by omega
  have h1 : decide ((s.length : Int) < 1) = false := decide_eq_false (by omega)
  have h2 : decide ((s.length : Int) > 200) = !decide (s.length ≤ 200) := by
    by_cases h : s.length ≤ 200
    · rw [decide_eq_true h, decide_eq_false (by omega)]; rfl
    · rw [decide_eq_false h, decide_eq_true (by omega)]; rfl
  generalize decide (s.length ≤ 200) = c1 at *
  generalize edgeB s[0] = c2 at *
  generalize edgeB s[s.length - 1] = c3 at *
  rw [start_frame (by simp)]; simp only [enumV, go_sem, emptyH]
  cases c1
  · repeat (first
    | (apply axJ; (focus ((with_reducible constructor) <;> rfl)))
    | (apply awT mixedOK hΓ (by kernel_rfl); (simp (disch := omega) only [go_sem, ↓reduceIte, dk, ↓lk, Int.reduceBEq, Int.reduceBNe, Bool.true_bne, Bool.false_bne, Bool.not_true, Bool.not_false, h1, h2] <;> with_reducible rfl))
    | ((first | apply awR hΓ | apply awG | apply awH mixedOK hΓ rfl (by kernel_rfl) | apply ovE rfl); (simp (disch := omega) only [go_sem, ↓reduceIte, dk, ↓lk, Int.reduceBEq, Int.reduceBNe, Bool.true_bne, Bool.false_bne, Bool.not_true, Bool.not_false, h1, h2] <;> with_reducible rfl); exact trivial)
    | rfl)
    try rfl
  simp only [Bool.not_true] at h2
  cases c2
  rotate_left
  · ((repeat (first | (apply axJ; (focus ((with_reducible constructor) <;> rfl))) | (apply awT mixedOK hΓ (by kernel_rfl); (simp (disch := omega) only [go_sem, ↓reduceIte, dk, ↓lk, Int.reduceBEq, Int.reduceBNe, Bool.true_bne, Bool.false_bne, Bool.not_true, Bool.not_false, h1, h2, e0, e1, hn, Int.reduceToNat, Int.toNat_natCast] <;> with_reducible rfl)) | ((first | apply awR hΓ | apply awG | apply awH mixedOK hΓ rfl (by kernel_rfl) | apply ovE rfl); (simp (disch := omega) only [go_sem, ↓reduceIte, dk, ↓lk, Int.reduceBEq, Int.reduceBNe, Bool.true_bne, Bool.false_bne, Bool.not_true, Bool.not_false, h1, h2, e0, e1, hn, Int.reduceToNat, Int.toNat_natCast] <;> with_reducible rfl); exact trivial) | rfl)); (first | done | rfl))
  cases c3
  rotate_left
  · ((repeat (first | (apply axJ; (focus ((with_reducible constructor) <;> rfl))) | (apply awT mixedOK hΓ (by kernel_rfl); (simp (disch := omega) only [go_sem, ↓reduceIte, dk, ↓lk, Int.reduceBEq, Int.reduceBNe, Bool.true_bne, Bool.false_bne, Bool.not_true, Bool.not_false, h1, h2, e0, e1, hn, Int.reduceToNat, Int.toNat_natCast] <;> with_reducible rfl)) | ((first | apply awR hΓ | apply awG | apply awH mixedOK hΓ rfl (by kernel_rfl) | apply ovE rfl); (simp (disch := omega) only [go_sem, ↓reduceIte, dk, ↓lk, Int.reduceBEq, Int.reduceBNe, Bool.true_bne, Bool.false_bne, Bool.not_true, Bool.not_false, h1, h2, e0, e1, hn, Int.reduceToNat, Int.toNat_natCast] <;> with_reducible rfl); exact trivial) | rfl)); (first | done | rfl))
  repeat (first
    | (apply axJ; (focus ((with_reducible constructor) <;> rfl)))
    | (apply awT mixedOK hΓ (by kernel_rfl); (simp (disch := omega) only [go_sem, ↓reduceIte, dk, ↓lk, Int.reduceBEq, Int.reduceBNe, Bool.true_bne, Bool.false_bne, Bool.not_true, Bool.not_false, h1, h2, e0, e1, hn, Int.reduceToNat, Int.toNat_natCast] <;> with_reducible rfl))
    | ((first | apply awR hΓ | apply awG | apply awH mixedOK hΓ rfl (by kernel_rfl) | apply ovE rfl); (simp (disch := omega) only [go_sem, ↓reduceIte, dk, ↓lk, Int.reduceBEq, Int.reduceBNe, Bool.true_bne, Bool.false_bne, Bool.not_true, Bool.not_false, h1, h2, e0, e1, hn, Int.reduceToNat, Int.toNat_natCast] <;> with_reducible rfl); exact trivial)
    | rfl)
  refine awp_loop_at (X := Nat) (fun i => (frame 41 [(0, .data (.str s)), (3, .data (i64 i))])) (fun _ => []) 25
    (fun i => i ≤ s.length ∧ (s.take i).all okT = true) (fun i => s.length - i) 0 ⟨Nat.zero_le _, rfl⟩ (Weak.w) ?_
  rintro i ⟨hi, hpre⟩
  by_cases hi2 : i < s.length
  · have hyes := fun h => all_next (p := okT) hi2 hpre h
    have hno := fun h => all_no (p := okT) hi2 h
    generalize hy : s[i] = y at hyes hno
    generalize hm : (y.toNat : Int) = m
    rw [okT_i y hm] at hyes hno
    generalize hd1 : decide (m < 32) = d1 at *
    generalize hd2 : decide (m > 126) = d2 at *
    (first | (((repeat (first | (apply axJ; (focus ((with_reducible constructor) <;> rfl))) | (apply awT mixedOK hΓ (by kernel_rfl); (simp (disch := omega) only [go_sem, ↓reduceIte, dk, ↓lk, hy, hm, hd1, hd2] <;> with_reducible rfl)) | ((first | apply awR hΓ | apply awG | apply awH mixedOK hΓ rfl (by kernel_rfl) | apply ovE rfl); (simp (disch := omega) only [go_sem, ↓reduceIte, dk, ↓lk, hy, hm, hd1, hd2] <;> with_reducible rfl); exact trivial) | rfl)); (first | exact ⟨i + 1, ⟨by omega, hyes rfl⟩, by omega, Weak.w⟩ | (have h := hno rfl; rw [h]; rfl))); done) | (cases d1 <;> (first | (((repeat (first | (apply axJ; (focus ((with_reducible constructor) <;> rfl))) | (apply awT mixedOK hΓ (by kernel_rfl); (simp (disch := omega) only [go_sem, ↓reduceIte, dk, ↓lk, hy, hm, hd1, hd2] <;> with_reducible rfl)) | ((first | apply awR hΓ | apply awG | apply awH mixedOK hΓ rfl (by kernel_rfl) | apply ovE rfl); (simp (disch := omega) only [go_sem, ↓reduceIte, dk, ↓lk, hy, hm, hd1, hd2] <;> with_reducible rfl); exact trivial) | rfl)); (first | exact ⟨i + 1, ⟨by omega, hyes rfl⟩, by omega, Weak.w⟩ | (have h := hno rfl; rw [h]; rfl))); done) | (cases d2 <;> (first | (((repeat (first | (apply axJ; (focus ((with_reducible constructor) <;> rfl))) | (apply awT mixedOK hΓ (by kernel_rfl); (simp (disch := omega) only [go_sem, ↓reduceIte, dk, ↓lk, hy, hm, hd1, hd2] <;> with_reducible rfl)) | ((first | apply awR hΓ | apply awG | apply awH mixedOK hΓ rfl (by kernel_rfl) | apply ovE rfl); (simp (disch := omega) only [go_sem, ↓reduceIte, dk, ↓lk, hy, hm, hd1, hd2] <;> with_reducible rfl); exact trivial) | rfl)); (first | exact ⟨i + 1, ⟨by omega, hyes rfl⟩, by omega, Weak.w⟩ | (have h := hno rfl; rw [h]; rfl))); done))))))
  · have hi3 : i = s.length := by omega
    subst hi3
    rw [List.take_length] at hpre
    repeat (first
      | (apply axJ; (focus ((with_reducible constructor) <;> rfl)))
      | (apply awT mixedOK hΓ (by kernel_rfl); (simp (disch := omega) only [go_sem, ↓reduceIte, dk, ↓lk] <;> with_reducible rfl))
      | ((first | apply awR hΓ | apply awG | apply awH mixedOK hΓ rfl (by kernel_rfl) | apply ovE rfl); (simp (disch := omega) only [go_sem, ↓reduceIte, dk, ↓lk] <;> with_reducible rfl); exact trivial)
      | rfl)
    rw [hpre]; rfl
noncomputable def g_linesR36 : List D → Option D := encSpec (fun x : Bs => [.str x]) (fun x : Bs => x.length ≤ 1099511627776) (fun x : Bs => .list ((splitB 10 x).map .str))
theorem g_linesR36_eq {s : Bs} (hd : s.length ≤ 1099511627776) : g_linesR36 [.str s] = some (.list ((splitB 10 s).map .str)) := encSpec_eq (x := s) hd fun y hy => by
    simp only [List.cons.injEq, and_true, true_and, D.str.injEq, D.int.injEq, D.list.injEq, D.bool.injEq, D.agg.injEq, D.clo.injEq, Int.natCast_inj, inj_ie, UInt8.toNat_inj] at hy
    rw [hy]
theorem f_linesR36_ok : PureOK Tryz.prog 47 false g_linesR36 := by
  have hΓ := Γ0_ok
  refine pure_enc (n := 31) (rs := [.tmp 2]) Tryz.func47 (by kernel_rfl) rfl (by kernel_rfl) (by kernel_rfl) ?_
  rintro s hd
  (try dsimp only at hd ⊢)
  refine ⟨fun h => (by cases h), fun k hz0 => ?_⟩
  rw [start_frame (by simp)]; simp only [enumV, go_sem, emptyH]
  repeat (first
    | (apply axJ; (focus ((with_reducible constructor) <;> rfl)))
    | (apply awT mixedOK hΓ (by kernel_rfl); (simp (disch := omega) only [go_sem, ↓reduceIte, dk] <;> with_reducible rfl))
    | ((first | apply awR hΓ | apply awG | apply awH mixedOK hΓ rfl (by kernel_rfl) | apply ovE rfl); (simp (disch := omega) only [go_sem, ↓reduceIte, dk] <;> with_reducible rfl); exact trivial)
    | rfl)
  refine awp_weak (Weak.nilrowF (i := 3) 9 (sz := 1) (by omega) (by omega) rfl) ?_
  refine awp_loop_at (X := Nat × Nat × List Bs) (fun y => (frame 31 [(0, .data (.str s)), (3, .row 4 y.2.2.length), (4, .data (i64 y.2.1)), (5, .data (i64 y.1))])) (fun y => [(4, .row 9 1 (y.2.2.map .str))]) 5
    (fun y => y.1 ≤ s.length ∧ y.2.1 ≤ y.1 ∧ y.2.2.length ≤ y.1 ∧ splitB 10 s = y.2.2 ++ cons1 ((s.drop y.2.1).take (y.1 - y.2.1)) (splitB 10 (s.drop y.1))) (fun y => s.length - y.1) (0, 0, [])
    ⟨Nat.zero_le _, Nat.zero_le _, Nat.zero_le _, by simp [cons1_nil (splitB_ne 10 s)]⟩ (Weak.v (by (simp [ConvF, lookV, Conv, ints, upd]; done)) (by (simp (disch := omega) only [TabSub, look, if_pos, if_neg, Obj.refsOK, refsOKs, AV.refsOK, decide_eq_true_eq, Bool.and_true, Bool.and_self, upd] ) <;> ((repeat' apply And.intro) <;> first | exact True.intro | omega | (simp; done) | rfl))) ?_
  rintro ⟨i, f, acc⟩ ⟨h1, h2, h3, h4⟩
  dsimp only at h1 h2 h3 h4 ⊢
  by_cases hi : i < s.length
  · have hst := split_step (c := 10) hi h2
    have hbe : (((s[i].toNat : Nat) : Int) == 10) = (s[i] == 10) := byteEq s[i] 10
    generalize hy : s[i] = y at *
    generalize hc : (y == 10) = b at *
    rw [hst] at h4
    cases b
    · repeat (first
      | (apply axJ; (focus ((with_reducible constructor) <;> rfl)))
      | (apply awT mixedOK hΓ (by kernel_rfl); (simp (disch := omega) only [go_sem, ↓reduceIte, dk, hy, hbe] <;> with_reducible rfl))
      | ((first | apply awR hΓ | apply awG | apply awH mixedOK hΓ rfl (by kernel_rfl) | apply ovE rfl); (simp (disch := omega) only [go_sem, ↓reduceIte, dk, hy, hbe] <;> with_reducible rfl); exact trivial)
      | rfl)
      exact ⟨(i + 1, f, acc), ⟨by dsimp only; omega, by dsimp only; omega, by dsimp only; omega, h4⟩, by dsimp only; omega, Weak.w⟩
    · repeat (first
      | (apply axJ; (focus ((with_reducible constructor) <;> rfl)))
      | (apply awT mixedOK hΓ (by kernel_rfl); (simp (disch := omega) only [go_sem, ↓reduceIte, dk, ↓lk, hy, hbe] <;> with_reducible rfl))
      | ((first | apply awR hΓ | apply awG | apply awH mixedOK hΓ rfl (by kernel_rfl) | apply ovE rfl); (simp (disch := omega) only [go_sem, ↓reduceIte, dk, ↓lk, hy, hbe] <;> with_reducible rfl); exact trivial)
      | rfl)
      refine ⟨(i + 1, i + 1, acc ++ [(s.drop f).take (i - f)]), ⟨by dsimp only; omega, Nat.le_refl _, by dsimp only; rw [List.length_append]; simp only [List.length_cons, List.length_nil]; omega, by dsimp only; rw [h4]; simp⟩, by dsimp only; omega, ?_⟩
      have hm : (acc ++ [(s.drop f).take (i - f)]).map D.str = acc.map D.str ++ [.str ((s.drop f).take (i - f))] := by rw [List.map_append]; rfl
      exact Weak.v (by (simp [ConvF, lookV, Conv, ints, hm]; done)) (by (simp (disch := omega) only [TabSub, look, if_pos, if_neg, Obj.refsOK, refsOKs, AV.refsOK, decide_eq_true_eq, Bool.and_true, Bool.and_self, hm] ) <;> ((repeat' apply And.intro) <;> first | exact True.intro | omega | (simp; done) | rfl))
  · have hi2 : i = s.length := by omega
    subst hi2
    rw [List.drop_length] at h4
    have h5 : splitB 10 s = acc ++ [(s.drop f).take (s.length - f)] := by
      rw [h4]
      show acc ++ [(s.drop f).take (s.length - f) ++ []] = _
      rw [List.append_nil]
    rw [h5, List.map_append]
    repeat (first
      | (apply axJ; (focus ((with_reducible constructor) <;> rfl)))
      | (apply awT mixedOK hΓ (by kernel_rfl); (simp (disch := omega) only [go_sem, ↓reduceIte, dk, ↓lk] <;> with_reducible rfl))
      | ((first | apply awR hΓ | apply awG | apply awH mixedOK hΓ rfl (by kernel_rfl) | apply ovE rfl); (simp (disch := omega) only [go_sem, ↓reduceIte, dk, ↓lk] <;> with_reducible rfl); exact trivial)
      | rfl)
    try rfl
theorem jn_take {l : List Bs} {i : Nat} (hi : i < l.length) : Lib.join (l.take (i + 1)) [10] = (if i = 0 then [] else Lib.join (l.take i) [10] ++ [10]) ++ l[i] := by
  rw [List.take_add_one, List.getElem?_eq_getElem hi]
  show Lib.join (l.take i ++ [l[i]]) [10] = _
  have key : ∀ a : List Bs, a ≠ [] → ∀ w, Lib.join (a ++ [w]) [10] = Lib.join a [10] ++ [10] ++ w := by
    intro a
    induction a with
    | nil => intro h; exact absurd rfl h
    | cons v r ih =>
      intro _ w
      cases r with
      | nil => simp [Lib.join]
      | cons u q =>
        have h1 := ih (by simp) w
        rw [List.cons_append, jn_cons _ _ _ (by simp), h1, jn_cons _ _ (u :: q) (by simp)]
        simp only [List.append_assoc]
  by_cases h : i = 0
  · subst h
    simp [Lib.join]
  · rw [if_neg h, key _ (by intro e; have := congrArg List.length e; rw [List.length_take, List.length_nil] at this; omega)]
theorem jn_mono (l : List Bs) (i : Nat) : (Lib.join (l.take i) [10]).length ≤ (Lib.join l [10]).length := by
  by_cases hi : i < l.length
  · have key : ∀ n i, n = l.length - i → i ≤ l.length → (Lib.join (l.take i) [10]).length ≤ (Lib.join l [10]).length := by
      intro n
      induction n with
      | zero => intro i h1 h2; rw [show i = l.length by omega, List.take_length]; exact Nat.le_refl _
      | succ n ih =>
        intro i h1 h2
        have h3 := ih (i + 1) (by omega) (by omega)
        rw [jn_take (by omega)] at h3
        rw [List.length_append] at h3
        by_cases h : i = 0
        · subst h; exact Nat.zero_le _
        · rw [if_neg h, List.length_append] at h3
          omega
    exact key _ i rfl (by omega)
  · rw [List.take_of_length_le (by omega)]
    exact Nat.le_refl _
noncomputable def g_joinR36 : List D → Option D := encSpec (fun x : (List Bs) => [.list (x.map .str)]) (fun x : (List Bs) => x.length ≤ 1099511627776 ∧ (Lib.join x [10]).length ≤ 1099511627776) (fun x : (List Bs) => .str (Lib.join x [10]))
theorem g_joinR36_eq {l : List Bs} (hd : l.length ≤ 1099511627776 ∧ (Lib.join l [10]).length ≤ 1099511627776) : g_joinR36 [.list (l.map .str)] = some (.str (Lib.join l [10])) := encSpec_eq (x := l) hd fun y hy => by
    simp only [List.cons.injEq, and_true, true_and, D.str.injEq, D.int.injEq, D.list.injEq, D.bool.injEq, D.agg.injEq, D.clo.injEq, Int.natCast_inj, inj_ie, UInt8.toNat_inj] at hy
    rw [hy]
theorem f_joinR36_ok : PureOK Tryz.prog 51 true g_joinR36 := by
  have hΓ := Γ0_ok
  refine pure_enc (n := 22) (rs := [.tmp 2]) Tryz.func51 (by kernel_rfl) rfl (by kernel_rfl) (by kernel_rfl) ?_
  rintro l hd
  (try dsimp only at hd ⊢)
  refine ⟨fun _ => by (repeat (first | exact .int _ _ | exact .bool _ | exact .str _ | (refine .tup _ (fun d hd => ?_); simp only [List.mem_cons, List.not_mem_nil, or_false] at hd; rcases hd with rfl | hd))), fun k hz0 => ?_⟩
  obtain ⟨h1, h2⟩ := hd
  rw [start_frame (by simp)]; simp only [enumV, go_sem, emptyH]
  repeat (first
    | (apply axJ; (focus ((with_reducible constructor) <;> rfl)))
    | (apply awT mixedOK hΓ (by kernel_rfl); (simp (disch := omega) only [go_sem, ↓reduceIte, dk, ↓lk] <;> with_reducible rfl))
    | ((first | apply awR hΓ | apply awG | apply awH mixedOK hΓ rfl (by kernel_rfl) | apply ovE rfl); (simp (disch := omega) only [go_sem, ↓reduceIte, dk, ↓lk] <;> with_reducible rfl); exact trivial)
    | rfl)
  refine awp_loop_at (X := Nat) (fun i => (frame 22 [(0, .data (.list (l.map .str))), (3, .data (.str (Lib.join (l.take i) [10]))), (4, .data (i64 i))])) (fun _ => []) 4
    (fun i => i ≤ l.length) (fun i => l.length - i) 0 (Nat.zero_le _) (Weak.v (by (simp [ConvF, lookV, Conv, ints, List.take_zero, Lib.join]; done)) (by (simp (disch := omega) only [TabSub, look, if_pos, if_neg, Obj.refsOK, refsOKs, AV.refsOK, decide_eq_true_eq, Bool.and_true, Bool.and_self, List.take_zero, Lib.join] ) <;> ((repeat' apply And.intro) <;> first | exact True.intro | omega | (simp; done) | rfl))) ?_
  intro i hi
  (try dsimp only at hi ⊢)
  by_cases hi2 : i < l.length
  · have hst := jn_take hi2
    have hle := jn_mono l (i + 1)
    rw [hst] at hle
    generalize hy : l[i] = y at *
    generalize hp : Lib.join (l.take i) [10] = p at *
    rw [List.length_append] at hle
    by_cases h0 : i = 0
    · rw [if_pos h0] at hst hle
      subst h0
      have hp0 : p = [] := by rw [← hp]; rfl
      subst hp0
      have h3 : decide ((((0 : Nat) : Int)) > 0) = false := decide_eq_false (by omega)
      repeat (first
        | (apply axJ; (focus ((with_reducible constructor) <;> rfl)))
        | (apply awT mixedOK hΓ (by kernel_rfl); (simp (disch := (first | omega | (simp only [maxLen, List.length_append, List.length_cons, List.length_nil]; omega))) only [go_sem, ↓reduceIte, ↓if_pos, ↓if_neg, decide_eq_true, decide_eq_false, if_pos, if_neg, wrap_in, ↓lk, Int.reduceBEq, Int.reduceBNe, Bool.true_bne, Bool.false_bne, Bool.not_true, Bool.not_false, hy, h3] <;> with_reducible rfl))
        | ((first | apply awR hΓ | apply awG | apply awH mixedOK hΓ rfl (by kernel_rfl) | apply ovE rfl); (simp (disch := (first | omega | (simp only [maxLen, List.length_append, List.length_cons, List.length_nil]; omega))) only [go_sem, ↓reduceIte, ↓if_pos, ↓if_neg, decide_eq_true, decide_eq_false, if_pos, if_neg, wrap_in, ↓lk, Int.reduceBEq, Int.reduceBNe, Bool.true_bne, Bool.false_bne, Bool.not_true, Bool.not_false, hy, h3] <;> with_reducible rfl); exact trivial)
        | rfl)
      exact ⟨1, by omega, by omega, by rw [hst]; exact Weak.w⟩
    · rw [if_neg h0, List.length_append] at hle
      rw [if_neg h0] at hst
      have h3 : decide ((i : Int) > 0) = true := decide_eq_true (by omega)
      simp only [List.length_cons, List.length_nil] at hle
      repeat (first
        | (apply axJ; (focus ((with_reducible constructor) <;> rfl)))
        | (apply awT mixedOK hΓ (by kernel_rfl); (simp (disch := (first | omega | (simp only [maxLen, List.length_append, List.length_cons, List.length_nil]; omega))) only [go_sem, ↓reduceIte, ↓if_pos, ↓if_neg, decide_eq_true, decide_eq_false, if_pos, if_neg, wrap_in, ↓lk, Int.reduceBEq, Int.reduceBNe, Bool.true_bne, Bool.false_bne, Bool.not_true, Bool.not_false, hy, h3] <;> with_reducible rfl))
        | ((first | apply awR hΓ | apply awG | apply awH mixedOK hΓ rfl (by kernel_rfl) | apply ovE rfl); (simp (disch := (first | omega | (simp only [maxLen, List.length_append, List.length_cons, List.length_nil]; omega))) only [go_sem, ↓reduceIte, ↓if_pos, ↓if_neg, decide_eq_true, decide_eq_false, if_pos, if_neg, wrap_in, ↓lk, Int.reduceBEq, Int.reduceBNe, Bool.true_bne, Bool.false_bne, Bool.not_true, Bool.not_false, hy, h3] <;> with_reducible rfl); exact trivial)
        | rfl)
      exact ⟨i + 1, by omega, by omega, by rw [hst]; exact Weak.w⟩
  · have hi3 : i = l.length := by omega
    subst hi3
    rw [List.take_length]
    repeat (first
      | (apply axJ; (focus ((with_reducible constructor) <;> rfl)))
      | (apply awT mixedOK hΓ (by kernel_rfl); (simp (disch := omega) only [go_sem, ↓reduceIte, dk, ↓lk] <;> with_reducible rfl))
      | ((first | apply awR hΓ | apply awG | apply awH mixedOK hΓ rfl (by kernel_rfl) | apply ovE rfl); (simp (disch := omega) only [go_sem, ↓reduceIte, dk, ↓lk] <;> with_reducible rfl); exact trivial)
      | rfl)
    try rfl
end Go.Ab
