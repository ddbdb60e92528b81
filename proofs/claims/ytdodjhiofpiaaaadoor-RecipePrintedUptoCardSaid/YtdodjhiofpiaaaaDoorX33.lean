/-
  One text of the proof (own work): contracts of functions of the program, by the abstract machine.
-/
import Derived.Test.YtdodjhiofpiaaaaDoorX19
import Derived.Test.YtdodjhiofpiaaaaDoorX30
import Derived.Test.YtdodjhiofpiaaaaDoorX32
set_option linter.unusedVariables false
set_option linter.unusedSimpArgs false
namespace Go.Ab
open Go Go.RowKit Go.Proofs Go.Shelf
set_option maxRecDepth 10000
set_option maxHeartbeats 8000000
theorem nmGo_drop {kind : Int} {nm : Bs} {l : List Bs} {i : Nat} (hi : i < l.length) : nmGo kind nm i (l.drop i) = (nmW kind nm i l[i] && nmGo kind nm (i + 1) (l.drop (i + 1))) := by
  rw [List.drop_eq_getElem_cons hi, nmGo]
noncomputable def g_nmd : List D → Option D := encSpec (fun x : Int × Gp => [i64 x.1, eGp x.2]) (fun x : Int × Gp => x.2.words.length ≤ 1099511627776 ∧ ∀ w ∈ x.2.words, w.length ≤ 1099511627776) (fun x : Int × Gp => .bool (nmG x.1 x.2))
theorem g_nmd_eq {kind : Int} {g : Gp} (hd : g.words.length ≤ 1099511627776 ∧ ∀ w ∈ g.words, w.length ≤ 1099511627776) : g_nmd [.int .i64 kind, eGp g] = some (.bool (nmG kind g)) := encSpec_eq (x := (kind, g)) hd fun y hy => by
    obtain ⟨y0, y1⟩ := y; simp only [List.cons.injEq, and_true, true_and, D.str.injEq, D.int.injEq, D.list.injEq, D.bool.injEq, D.agg.injEq, D.clo.injEq, Int.natCast_inj, inj_ie, eGp_ie', D.ref.injEq] at hy
    (try obtain ⟨rfl, rfl⟩ := hy)
    (try subst_vars)
    rfl
theorem f_nmd_ok : PureOK Tryd.prog 50 false g_nmd := by
  have hΓ := Γp f_nameP_ok (Γp f_pathP_ok (Γp f_refP_ok (Γn)))
  refine pure_enc (n := 58) (rs := [.tmp 4]) Tryd.func50 (by kernel_rfl) rfl (by kernel_rfl) (by kernel_rfl) ?_
  rintro ⟨kind, g⟩ hd
  (try dsimp only at hd ⊢)
  refine ⟨fun h => (by cases h), fun k hz0 => ?_⟩
  obtain ⟨hl, hw⟩ := hd
  obtain ⟨nm, l⟩ := g
  dsimp only at hl hw
  rw [eGp_eq, show nmG kind ⟨nm, l⟩ = nmGo kind nm 0 l from rfl]
  dsimp only
  have hW : ∀ i w, nmW kind nm i w = if (kind == 1 && nm == kWith) || (kind == 4 && (nm == [] && (i : Int) == 0)) then idB w else if nm == kTo || nm == kAs then pathE w == 0 else refB w := fun _ _ => rfl
  unfold kWith kTo kAs at hW
  generalize ha1 : (kind == 1) = a1 at *
  generalize ha2 : (nm == [119, 105, 116, 104]) = a2 at *
  generalize hb1 : (nm == [116, 111]) = b1 at *
  generalize hb2 : (nm == [97, 115]) = b2 at *
  generalize hd1 : (kind == 4) = d1 at *
  generalize hd2 : (nm == []) = d2 at *
  obtain ⟨fl, hfl⟩ : ∃ fl, fl = (a1 && a2) := ⟨_, rfl⟩
  obtain ⟨ou, hou⟩ : ∃ ou, ou = (b1 || b2) := ⟨_, rfl⟩
  rw [← hfl, ← hou] at hW
  rw [start_frame (by simp)]; simp only [enumV, go_sem, emptyH]
  cases a1 <;> cases b1
  all_goals
    repeat (first
      | (apply axJ; (focus ((with_reducible constructor) <;> rfl)))
      | (apply awT mixedOK hΓ (by kernel_rfl); (simp (disch := omega) only [go_sem, ↓reduceIte, dk, ↓lk, ha1, ha2, hb1, hb2] <;> with_reducible rfl))
      | ((first | apply awR hΓ | apply awG | apply awH mixedOK hΓ rfl (by kernel_rfl) | apply ovE rfl); (simp (disch := omega) only [go_sem, ↓reduceIte, dk, ↓lk, ha1, ha2, hb1, hb2] <;> with_reducible rfl); exact trivial)
      | rfl)
    refine awp_loop_at (X := Nat) (fun i => (frame 58 [(0, .data (i64 kind)), (3, .ptr 0 0), (5, .data (.bool fl)), (6, .data (.bool ou)), (25, .data (.list (l.map .str))), (26, .data (i64 l.length)), (27, .data (i64 i))])) (fun _ => [(0, .box [.data (.str nm), .data (.list (l.map .str))])]) 5
      (fun i => i ≤ l.length ∧ nmGo kind nm 0 l = nmGo kind nm i (l.drop i)) (fun i => l.length - i) 0 ⟨Nat.zero_le _, rfl⟩ (Weak.v (by (simp [ConvF, lookV, Conv, ints, hfl, hou]; done)) (by (simp (disch := omega) only [TabSub, look, if_pos, if_neg, Obj.refsOK, refsOKs, AV.refsOK, decide_eq_true_eq, Bool.and_true, Bool.and_self, hfl, hou] ) <;> ((repeat' apply And.intro) <;> first | exact True.intro | omega | (simp; done) | rfl))) ?_
    clear hfl hou
    rintro i ⟨hi, hp⟩
    by_cases hi2 : i < l.length
    · rw [nmGo_drop hi2, hW] at hp
      have hwi := hw _ (List.getElem_mem hi2)
      have e1 := g_nameP_eq hwi
      have e2 := g_pathP_eq hwi
      have e3 := g_refP_eq hwi
      generalize hy : l[i] = y at *
      generalize idB y = v1 at *
      generalize pathE y = pe at *
      generalize hv2 : (pe == 0) = v2 at *
      have hv2' : (pe != 0) = !v2 := by rw [← hv2]; rfl
      generalize refB y = v3 at *
      generalize hd3 : ((i : Int) == 0) = d3 at *
      (cases fl; (focus (cases d1; (focus (cases ou; (focus (cases v3; (focus ((repeat (first | (apply axJ; (focus ((with_reducible constructor) <;> rfl))) | (apply awT mixedOK hΓ (by kernel_rfl); (simp (disch := omega) only [go_sem, ↓reduceIte, dk, ↓lk, Int.reduceBEq, Int.reduceBNe, Bool.true_bne, Bool.false_bne, Bool.not_true, Bool.not_false, hy, ha1, ha2, hb1, hb2, hd1, hd2, hd3, hv2, hv2', e1, e2, e3] <;> with_reducible rfl)) | ((first | apply awR hΓ | apply awG | apply awH mixedOK hΓ rfl (by kernel_rfl) | apply ovE rfl); (simp (disch := omega) only [go_sem, ↓reduceIte, dk, ↓lk, Int.reduceBEq, Int.reduceBNe, Bool.true_bne, Bool.false_bne, Bool.not_true, Bool.not_false, hy, ha1, ha2, hb1, hb2, hd1, hd2, hd3, hv2, hv2', e1, e2, e3] <;> with_reducible rfl); exact trivial) | rfl)); (first | done | (rw [hp]; rfl) | exact ⟨i + 1, ⟨by omega, by rw [hp]; simp only [Bool.false_or, Bool.true_or, Bool.false_and, Bool.true_and, Bool.and_false, Bool.false_eq_true, if_false, if_true]⟩, by omega, Weak.w⟩))); (focus ((repeat (first | (apply axJ; (focus ((with_reducible constructor) <;> rfl))) | (apply awT mixedOK hΓ (by kernel_rfl); (simp (disch := omega) only [go_sem, ↓reduceIte, dk, ↓lk, Int.reduceBEq, Int.reduceBNe, Bool.true_bne, Bool.false_bne, Bool.not_true, Bool.not_false, hy, ha1, ha2, hb1, hb2, hd1, hd2, hd3, hv2, hv2', e1, e2, e3] <;> with_reducible rfl)) | ((first | apply awR hΓ | apply awG | apply awH mixedOK hΓ rfl (by kernel_rfl) | apply ovE rfl); (simp (disch := omega) only [go_sem, ↓reduceIte, dk, ↓lk, Int.reduceBEq, Int.reduceBNe, Bool.true_bne, Bool.false_bne, Bool.not_true, Bool.not_false, hy, ha1, ha2, hb1, hb2, hd1, hd2, hd3, hv2, hv2', e1, e2, e3] <;> with_reducible rfl); exact trivial) | rfl)); (first | done | (rw [hp]; rfl) | exact ⟨i + 1, ⟨by omega, by rw [hp]; simp only [Bool.false_or, Bool.true_or, Bool.false_and, Bool.true_and, Bool.and_false, Bool.false_eq_true, if_false, if_true]⟩, by omega, Weak.w⟩))))); (focus (cases v2; (focus ((repeat (first | (apply axJ; (focus ((with_reducible constructor) <;> rfl))) | (apply awT mixedOK hΓ (by kernel_rfl); (simp (disch := omega) only [go_sem, ↓reduceIte, dk, ↓lk, Int.reduceBEq, Int.reduceBNe, Bool.true_bne, Bool.false_bne, Bool.not_true, Bool.not_false, hy, ha1, ha2, hb1, hb2, hd1, hd2, hd3, hv2, hv2', e1, e2, e3] <;> with_reducible rfl)) | ((first | apply awR hΓ | apply awG | apply awH mixedOK hΓ rfl (by kernel_rfl) | apply ovE rfl); (simp (disch := omega) only [go_sem, ↓reduceIte, dk, ↓lk, Int.reduceBEq, Int.reduceBNe, Bool.true_bne, Bool.false_bne, Bool.not_true, Bool.not_false, hy, ha1, ha2, hb1, hb2, hd1, hd2, hd3, hv2, hv2', e1, e2, e3] <;> with_reducible rfl); exact trivial) | rfl)); (first | done | (rw [hp]; rfl) | exact ⟨i + 1, ⟨by omega, by rw [hp]; simp only [Bool.false_or, Bool.true_or, Bool.false_and, Bool.true_and, Bool.and_false, Bool.false_eq_true, if_false, if_true]⟩, by omega, Weak.w⟩))); (focus ((repeat (first | (apply axJ; (focus ((with_reducible constructor) <;> rfl))) | (apply awT mixedOK hΓ (by kernel_rfl); (simp (disch := omega) only [go_sem, ↓reduceIte, dk, ↓lk, Int.reduceBEq, Int.reduceBNe, Bool.true_bne, Bool.false_bne, Bool.not_true, Bool.not_false, hy, ha1, ha2, hb1, hb2, hd1, hd2, hd3, hv2, hv2', e1, e2, e3] <;> with_reducible rfl)) | ((first | apply awR hΓ | apply awG | apply awH mixedOK hΓ rfl (by kernel_rfl) | apply ovE rfl); (simp (disch := omega) only [go_sem, ↓reduceIte, dk, ↓lk, Int.reduceBEq, Int.reduceBNe, Bool.true_bne, Bool.false_bne, Bool.not_true, Bool.not_false, hy, ha1, ha2, hb1, hb2, hd1, hd2, hd3, hv2, hv2', e1, e2, e3] <;> with_reducible rfl); exact trivial) | rfl)); (first | done | (rw [hp]; rfl) | exact ⟨i + 1, ⟨by omega, by rw [hp]; simp only [Bool.false_or, Bool.true_or, Bool.false_and, Bool.true_and, Bool.and_false, Bool.false_eq_true, if_false, if_true]⟩, by omega, Weak.w⟩))))))); (focus (cases d2; (focus (cases ou; (focus (cases v3; (focus ((repeat (first | (apply axJ; (focus ((with_reducible constructor) <;> rfl))) | (apply awT mixedOK hΓ (by kernel_rfl); (simp (disch := omega) only [go_sem, ↓reduceIte, dk, ↓lk, Int.reduceBEq, Int.reduceBNe, Bool.true_bne, Bool.false_bne, Bool.not_true, Bool.not_false, hy, ha1, ha2, hb1, hb2, hd1, hd2, hd3, hv2, hv2', e1, e2, e3] <;> with_reducible rfl)) | ((first | apply awR hΓ | apply awG | apply awH mixedOK hΓ rfl (by kernel_rfl) | apply ovE rfl); (simp (disch := omega) only [go_sem, ↓reduceIte, dk, ↓lk, Int.reduceBEq, Int.reduceBNe, Bool.true_bne, Bool.false_bne, Bool.not_true, Bool.not_false, hy, ha1, ha2, hb1, hb2, hd1, hd2, hd3, hv2, hv2', e1, e2, e3] <;> with_reducible rfl); exact trivial) | rfl)); (first | done | (rw [hp]; rfl) | exact ⟨i + 1, ⟨by omega, by rw [hp]; simp only [Bool.false_or, Bool.true_or, Bool.false_and, Bool.true_and, Bool.and_false, Bool.false_eq_true, if_false, if_true]⟩, by omega, Weak.w⟩))); (focus ((repeat (first | (apply axJ; (focus ((with_reducible constructor) <;> rfl))) | (apply awT mixedOK hΓ (by kernel_rfl); (simp (disch := omega) only [go_sem, ↓reduceIte, dk, ↓lk, Int.reduceBEq, Int.reduceBNe, Bool.true_bne, Bool.false_bne, Bool.not_true, Bool.not_false, hy, ha1, ha2, hb1, hb2, hd1, hd2, hd3, hv2, hv2', e1, e2, e3] <;> with_reducible rfl)) | ((first | apply awR hΓ | apply awG | apply awH mixedOK hΓ rfl (by kernel_rfl) | apply ovE rfl); (simp (disch := omega) only [go_sem, ↓reduceIte, dk, ↓lk, Int.reduceBEq, Int.reduceBNe, Bool.true_bne, Bool.false_bne, Bool.not_true, Bool.not_false, hy, ha1, ha2, hb1, hb2, hd1, hd2, hd3, hv2, hv2', e1, e2, e3] <;> with_reducible rfl); exact trivial) | rfl)); (first | done | (rw [hp]; rfl) | exact ⟨i + 1, ⟨by omega, by rw [hp]; simp only [Bool.false_or, Bool.true_or, Bool.false_and, Bool.true_and, Bool.and_false, Bool.false_eq_true, if_false, if_true]⟩, by omega, Weak.w⟩))))); (focus (cases v2; (focus ((repeat (first | (apply axJ; (focus ((with_reducible constructor) <;> rfl))) | (apply awT mixedOK hΓ (by kernel_rfl); (simp (disch := omega) only [go_sem, ↓reduceIte, dk, ↓lk, Int.reduceBEq, Int.reduceBNe, Bool.true_bne, Bool.false_bne, Bool.not_true, Bool.not_false, hy, ha1, ha2, hb1, hb2, hd1, hd2, hd3, hv2, hv2', e1, e2, e3] <;> with_reducible rfl)) | ((first | apply awR hΓ | apply awG | apply awH mixedOK hΓ rfl (by kernel_rfl) | apply ovE rfl); (simp (disch := omega) only [go_sem, ↓reduceIte, dk, ↓lk, Int.reduceBEq, Int.reduceBNe, Bool.true_bne, Bool.false_bne, Bool.not_true, Bool.not_false, hy, ha1, ha2, hb1, hb2, hd1, hd2, hd3, hv2, hv2', e1, e2, e3] <;> with_reducible rfl); exact trivial) | rfl)); (first | done | (rw [hp]; rfl) | exact ⟨i + 1, ⟨by omega, by rw [hp]; simp only [Bool.false_or, Bool.true_or, Bool.false_and, Bool.true_and, Bool.and_false, Bool.false_eq_true, if_false, if_true]⟩, by omega, Weak.w⟩))); (focus ((repeat (first | (apply axJ; (focus ((with_reducible constructor) <;> rfl))) | (apply awT mixedOK hΓ (by kernel_rfl); (simp (disch := omega) only [go_sem, ↓reduceIte, dk, ↓lk, Int.reduceBEq, Int.reduceBNe, Bool.true_bne, Bool.false_bne, Bool.not_true, Bool.not_false, hy, ha1, ha2, hb1, hb2, hd1, hd2, hd3, hv2, hv2', e1, e2, e3] <;> with_reducible rfl)) | ((first | apply awR hΓ | apply awG | apply awH mixedOK hΓ rfl (by kernel_rfl) | apply ovE rfl); (simp (disch := omega) only [go_sem, ↓reduceIte, dk, ↓lk, Int.reduceBEq, Int.reduceBNe, Bool.true_bne, Bool.false_bne, Bool.not_true, Bool.not_false, hy, ha1, ha2, hb1, hb2, hd1, hd2, hd3, hv2, hv2', e1, e2, e3] <;> with_reducible rfl); exact trivial) | rfl)); (first | done | (rw [hp]; rfl) | exact ⟨i + 1, ⟨by omega, by rw [hp]; simp only [Bool.false_or, Bool.true_or, Bool.false_and, Bool.true_and, Bool.and_false, Bool.false_eq_true, if_false, if_true]⟩, by omega, Weak.w⟩))))))); (focus (cases d3; (focus (cases ou; (focus (cases v3; (focus ((repeat (first | (apply axJ; (focus ((with_reducible constructor) <;> rfl))) | (apply awT mixedOK hΓ (by kernel_rfl); (simp (disch := omega) only [go_sem, ↓reduceIte, dk, ↓lk, Int.reduceBEq, Int.reduceBNe, Bool.true_bne, Bool.false_bne, Bool.not_true, Bool.not_false, hy, ha1, ha2, hb1, hb2, hd1, hd2, hd3, hv2, hv2', e1, e2, e3] <;> with_reducible rfl)) | ((first | apply awR hΓ | apply awG | apply awH mixedOK hΓ rfl (by kernel_rfl) | apply ovE rfl); (simp (disch := omega) only [go_sem, ↓reduceIte, dk, ↓lk, Int.reduceBEq, Int.reduceBNe, Bool.true_bne, Bool.false_bne, Bool.not_true, Bool.not_false, hy, ha1, ha2, hb1, hb2, hd1, hd2, hd3, hv2, hv2', e1, e2, e3] <;> with_reducible rfl); exact trivial) | rfl)); (first | done | (rw [hp]; rfl) | exact ⟨i + 1, ⟨by omega, by rw [hp]; simp only [Bool.false_or, Bool.true_or, Bool.false_and, Bool.true_and, Bool.and_false, Bool.false_eq_true, if_false, if_true]⟩, by omega, Weak.w⟩))); (focus ((repeat (first | (apply axJ; (focus ((with_reducible constructor) <;> rfl))) | (apply awT mixedOK hΓ (by kernel_rfl); (simp (disch := omega) only [go_sem, ↓reduceIte, dk, ↓lk, Int.reduceBEq, Int.reduceBNe, Bool.true_bne, Bool.false_bne, Bool.not_true, Bool.not_false, hy, ha1, ha2, hb1, hb2, hd1, hd2, hd3, hv2, hv2', e1, e2, e3] <;> with_reducible rfl)) | ((first | apply awR hΓ | apply awG | apply awH mixedOK hΓ rfl (by kernel_rfl) | apply ovE rfl); (simp (disch := omega) only [go_sem, ↓reduceIte, dk, ↓lk, Int.reduceBEq, Int.reduceBNe, Bool.true_bne, Bool.false_bne, Bool.not_true, Bool.not_false, hy, ha1, ha2, hb1, hb2, hd1, hd2, hd3, hv2, hv2', e1, e2, e3] <;> with_reducible rfl); exact trivial) | rfl)); (first | done | (rw [hp]; rfl) | exact ⟨i + 1, ⟨by omega, by rw [hp]; simp only [Bool.false_or, Bool.true_or, Bool.false_and, Bool.true_and, Bool.and_false, Bool.false_eq_true, if_false, if_true]⟩, by omega, Weak.w⟩))))); (focus (cases v2; (focus ((repeat (first | (apply axJ; (focus ((with_reducible constructor) <;> rfl))) | (apply awT mixedOK hΓ (by kernel_rfl); (simp (disch := omega) only [go_sem, ↓reduceIte, dk, ↓lk, Int.reduceBEq, Int.reduceBNe, Bool.true_bne, Bool.false_bne, Bool.not_true, Bool.not_false, hy, ha1, ha2, hb1, hb2, hd1, hd2, hd3, hv2, hv2', e1, e2, e3] <;> with_reducible rfl)) | ((first | apply awR hΓ | apply awG | apply awH mixedOK hΓ rfl (by kernel_rfl) | apply ovE rfl); (simp (disch := omega) only [go_sem, ↓reduceIte, dk, ↓lk, Int.reduceBEq, Int.reduceBNe, Bool.true_bne, Bool.false_bne, Bool.not_true, Bool.not_false, hy, ha1, ha2, hb1, hb2, hd1, hd2, hd3, hv2, hv2', e1, e2, e3] <;> with_reducible rfl); exact trivial) | rfl)); (first | done | (rw [hp]; rfl) | exact ⟨i + 1, ⟨by omega, by rw [hp]; simp only [Bool.false_or, Bool.true_or, Bool.false_and, Bool.true_and, Bool.and_false, Bool.false_eq_true, if_false, if_true]⟩, by omega, Weak.w⟩))); (focus ((repeat (first | (apply axJ; (focus ((with_reducible constructor) <;> rfl))) | (apply awT mixedOK hΓ (by kernel_rfl); (simp (disch := omega) only [go_sem, ↓reduceIte, dk, ↓lk, Int.reduceBEq, Int.reduceBNe, Bool.true_bne, Bool.false_bne, Bool.not_true, Bool.not_false, hy, ha1, ha2, hb1, hb2, hd1, hd2, hd3, hv2, hv2', e1, e2, e3] <;> with_reducible rfl)) | ((first | apply awR hΓ | apply awG | apply awH mixedOK hΓ rfl (by kernel_rfl) | apply ovE rfl); (simp (disch := omega) only [go_sem, ↓reduceIte, dk, ↓lk, Int.reduceBEq, Int.reduceBNe, Bool.true_bne, Bool.false_bne, Bool.not_true, Bool.not_false, hy, ha1, ha2, hb1, hb2, hd1, hd2, hd3, hv2, hv2', e1, e2, e3] <;> with_reducible rfl); exact trivial) | rfl)); (first | done | (rw [hp]; rfl) | exact ⟨i + 1, ⟨by omega, by rw [hp]; simp only [Bool.false_or, Bool.true_or, Bool.false_and, Bool.true_and, Bool.and_false, Bool.false_eq_true, if_false, if_true]⟩, by omega, Weak.w⟩))))))); (focus (cases v1; (focus ((repeat (first | (apply axJ; (focus ((with_reducible constructor) <;> rfl))) | (apply awT mixedOK hΓ (by kernel_rfl); (simp (disch := omega) only [go_sem, ↓reduceIte, dk, ↓lk, Int.reduceBEq, Int.reduceBNe, Bool.true_bne, Bool.false_bne, Bool.not_true, Bool.not_false, hy, ha1, ha2, hb1, hb2, hd1, hd2, hd3, hv2, hv2', e1, e2, e3] <;> with_reducible rfl)) | ((first | apply awR hΓ | apply awG | apply awH mixedOK hΓ rfl (by kernel_rfl) | apply ovE rfl); (simp (disch := omega) only [go_sem, ↓reduceIte, dk, ↓lk, Int.reduceBEq, Int.reduceBNe, Bool.true_bne, Bool.false_bne, Bool.not_true, Bool.not_false, hy, ha1, ha2, hb1, hb2, hd1, hd2, hd3, hv2, hv2', e1, e2, e3] <;> with_reducible rfl); exact trivial) | rfl)); (first | done | (rw [hp]; rfl) | exact ⟨i + 1, ⟨by omega, by rw [hp]; simp only [Bool.false_or, Bool.true_or, Bool.false_and, Bool.true_and, Bool.and_false, Bool.false_eq_true, if_false, if_true]⟩, by omega, Weak.w⟩))); (focus ((repeat (first | (apply axJ; (focus ((with_reducible constructor) <;> rfl))) | (apply awT mixedOK hΓ (by kernel_rfl); (simp (disch := omega) only [go_sem, ↓reduceIte, dk, ↓lk, Int.reduceBEq, Int.reduceBNe, Bool.true_bne, Bool.false_bne, Bool.not_true, Bool.not_false, hy, ha1, ha2, hb1, hb2, hd1, hd2, hd3, hv2, hv2', e1, e2, e3] <;> with_reducible rfl)) | ((first | apply awR hΓ | apply awG | apply awH mixedOK hΓ rfl (by kernel_rfl) | apply ovE rfl); (simp (disch := omega) only [go_sem, ↓reduceIte, dk, ↓lk, Int.reduceBEq, Int.reduceBNe, Bool.true_bne, Bool.false_bne, Bool.not_true, Bool.not_false, hy, ha1, ha2, hb1, hb2, hd1, hd2, hd3, hv2, hv2', e1, e2, e3] <;> with_reducible rfl); exact trivial) | rfl)); (first | done | (rw [hp]; rfl) | exact ⟨i + 1, ⟨by omega, by rw [hp]; simp only [Bool.false_or, Bool.true_or, Bool.false_and, Bool.true_and, Bool.and_false, Bool.false_eq_true, if_false, if_true]⟩, by omega, Weak.w⟩))))))))))); (focus (cases v1; (focus ((repeat (first | (apply axJ; (focus ((with_reducible constructor) <;> rfl))) | (apply awT mixedOK hΓ (by kernel_rfl); (simp (disch := omega) only [go_sem, ↓reduceIte, dk, ↓lk, Int.reduceBEq, Int.reduceBNe, Bool.true_bne, Bool.false_bne, Bool.not_true, Bool.not_false, hy, ha1, ha2, hb1, hb2, hd1, hd2, hd3, hv2, hv2', e1, e2, e3] <;> with_reducible rfl)) | ((first | apply awR hΓ | apply awG | apply awH mixedOK hΓ rfl (by kernel_rfl) | apply ovE rfl); (simp (disch := omega) only [go_sem, ↓reduceIte, dk, ↓lk, Int.reduceBEq, Int.reduceBNe, Bool.true_bne, Bool.false_bne, Bool.not_true, Bool.not_false, hy, ha1, ha2, hb1, hb2, hd1, hd2, hd3, hv2, hv2', e1, e2, e3] <;> with_reducible rfl); exact trivial) | rfl)); (first | done | (rw [hp]; rfl) | exact ⟨i + 1, ⟨by omega, by rw [hp]; simp only [Bool.false_or, Bool.true_or, Bool.false_and, Bool.true_and, Bool.and_false, Bool.false_eq_true, if_false, if_true]⟩, by omega, Weak.w⟩))); (focus ((repeat (first | (apply axJ; (focus ((with_reducible constructor) <;> rfl))) | (apply awT mixedOK hΓ (by kernel_rfl); (simp (disch := omega) only [go_sem, ↓reduceIte, dk, ↓lk, Int.reduceBEq, Int.reduceBNe, Bool.true_bne, Bool.false_bne, Bool.not_true, Bool.not_false, hy, ha1, ha2, hb1, hb2, hd1, hd2, hd3, hv2, hv2', e1, e2, e3] <;> with_reducible rfl)) | ((first | apply awR hΓ | apply awG | apply awH mixedOK hΓ rfl (by kernel_rfl) | apply ovE rfl); (simp (disch := omega) only [go_sem, ↓reduceIte, dk, ↓lk, Int.reduceBEq, Int.reduceBNe, Bool.true_bne, Bool.false_bne, Bool.not_true, Bool.not_false, hy, ha1, ha2, hb1, hb2, hd1, hd2, hd3, hv2, hv2', e1, e2, e3] <;> with_reducible rfl); exact trivial) | rfl)); (first | done | (rw [hp]; rfl) | exact ⟨i + 1, ⟨by omega, by rw [hp]; simp only [Bool.false_or, Bool.true_or, Bool.false_and, Bool.true_and, Bool.and_false, Bool.false_eq_true, if_false, if_true]⟩, by omega, Weak.w⟩))))))
    · have hi3 : i = l.length := by omega
      subst hi3
      rw [List.drop_length] at hp
      rw [hp]
      repeat (first
        | (apply axJ; (focus ((with_reducible constructor) <;> rfl)))
        | (apply awT mixedOK hΓ (by kernel_rfl); (simp (disch := omega) only [go_sem, ↓reduceIte, dk, ↓lk] <;> with_reducible rfl))
        | ((first | apply awR hΓ | apply awG | apply awH mixedOK hΓ rfl (by kernel_rfl) | apply ovE rfl); (simp (disch := omega) only [go_sem, ↓reduceIte, dk, ↓lk] <;> with_reducible rfl); exact trivial)
        | rfl)
      try rfl
end Go.Ab
namespace Go.Ab
open Go Go.RowKit Go.Proofs Go.Shelf
set_option maxRecDepth 10000
set_option maxHeartbeats 8000000
noncomputable def g_stepC2 : List D → Option D := encSpec (fun x : Gp × Int => [eGp x.1, .ref [i64 x.2]]) (fun x : Gp × Int => x.1.words.length ≤ 1099511627776 ∧ ∀ w ∈ x.1.words, w.length ≤ 1099511627776) (fun x : Gp × Int => .bool (!nmG x.2 x.1))
theorem g_stepC2_eq {g : Gp} {kind : Int} (hd : g.words.length ≤ 1099511627776 ∧ ∀ w ∈ g.words, w.length ≤ 1099511627776) : g_stepC2 [eGp g, .ref [.int .i64 kind]] = some (.bool (!nmG kind g)) := encSpec_eq (x := (g, kind)) hd fun y hy => by
    obtain ⟨y0, y1⟩ := y; simp only [List.cons.injEq, and_true, true_and, D.str.injEq, D.int.injEq, D.list.injEq, D.bool.injEq, D.agg.injEq, D.clo.injEq, Int.natCast_inj, inj_ie, eGp_ie', eGps_ie, D.ref.injEq] at hy
    (try obtain ⟨rfl, rfl⟩ := hy)
    (try subst_vars)
    rfl
theorem f_stepC2_ok : PureOK Tryd.prog 49 false g_stepC2 := by
  have hΓ := Γp f_nmd_ok (Γn)
  refine pure_enc (n := 8) (rs := [.tmp 3]) Tryd.func49 (by kernel_rfl) rfl (by kernel_rfl) (by kernel_rfl) ?_
  rintro ⟨g, kind⟩ hd
  (try dsimp only at hd ⊢)
  refine ⟨fun h => (by cases h), fun k hz0 => ?_⟩
  have e1 := g_nmd_eq (kind := kind) hd
  rw [eGp_eq] at e1 ⊢
  generalize nmG kind g = b at *
  rw [start_frame (by simp)]; simp only [enumV, go_sem, emptyH]
  repeat (first
    | (apply axJ; (focus ((with_reducible constructor) <;> rfl)))
    | (apply awT mixedOK hΓ (by kernel_rfl); (simp (disch := omega) only [go_sem, ↓reduceIte, dk, ↓lk, e1] <;> with_reducible rfl))
    | ((first | apply awR hΓ | apply awG | apply awH mixedOK hΓ rfl (by kernel_rfl) | apply ovE rfl); (simp (disch := omega) only [go_sem, ↓reduceIte, dk, ↓lk, e1] <;> with_reducible rfl); exact trivial)
    | rfl)
  try rfl
def GpOK (g : Gp) : Prop := g.words.length ≤ 1099511627776 ∧ ∀ w ∈ g.words, w.length ≤ 1099511627776
noncomputable def g_anyN : List D → Option D := encSpec (fun x : List Gp × Int => [.list (x.1.map eGp), .clo 49 [.ref [i64 x.2]]]) (fun x => x.1.length ≤ 1099511627776 ∧ ∀ g ∈ x.1, GpOK g) (fun x => .bool (x.1.any fun g => !nmG x.2 g))
theorem g_anyN_eq {l : List Gp} {kind : Int} (h : l.length ≤ 1099511627776 ∧ ∀ g ∈ l, GpOK g) : g_anyN [.list (l.map eGp), .clo 49 [.ref [.int .i64 kind]]] = some (.bool (l.any fun g => !nmG kind g)) := encSpec_eq (x := (l, kind)) h fun y hy => by
  obtain ⟨y0, y1⟩ := y
  simp only [List.cons.injEq, and_true, true_and, D.list.injEq, D.clo.injEq, D.ref.injEq, D.int.injEq, eGps_ie] at hy
  obtain ⟨rfl, rfl⟩ := hy
  rfl
theorem f_anyN_ok : PureOK Tryd.prog 48 true g_anyN := by
  intro ds d hd
  obtain ⟨⟨l, kind⟩, rfl, ⟨h1, h2⟩, rfl⟩ := encSpec_some hd
  exact ⟨fun _ => .bool _, (f_anyG_ok (dm := GpOK) (caps := [.ref [i64 kind]]) (p := fun g => !nmG kind g) f_stepC2_ok (fun x hx => (congrArg g_stepC2 (by rw [eGp_eq])).trans (g_stepC2_eq hx)) _ _ (gAnyD_eq eGp_inj h1 h2)).2⟩
noncomputable def g_anyF : List D → Option D := encSpec (fun x : List (List Pt) × List Gp => [.list (x.1.map eRow), .clo 46 [.ref [.list (x.2.map eGp)]]]) (fun x => x.1.length ≤ 1099511627776 ∧ (∀ r ∈ x.1, r.length ≤ 1099511627776) ∧ x.2.length ≤ 1099511627776 ∧ ∀ g ∈ x.2, GpOK g) (fun x => .bool (x.1.any fun r => fitsB x.2 r))
theorem eRows_ie (a b : List (List Pt)) : (a.map eRow = b.map eRow) = (a = b) := map_ie eRow_inj a b
theorem g_anyF_eq {l : List (List Pt)} {gs : List Gp} (h : l.length ≤ 1099511627776 ∧ (∀ r ∈ l, r.length ≤ 1099511627776) ∧ gs.length ≤ 1099511627776 ∧ ∀ g ∈ gs, GpOK g) : g_anyF [.list (l.map eRow), .clo 46 [.ref [.list (gs.map eGp)]]] = some (.bool (l.any fun r => fitsB gs r)) := encSpec_eq (x := (l, gs)) h fun y hy => by
  obtain ⟨y0, y1⟩ := y
  simp only [List.cons.injEq, and_true, true_and, D.list.injEq, D.clo.injEq, D.ref.injEq, eGps_ie, eRows_ie] at hy
  obtain ⟨rfl, rfl⟩ := hy
  rfl
theorem f_anyF_ok : PureOK Tryd.prog 45 true g_anyF := by
  intro ds d hd
  obtain ⟨⟨l, gs⟩, rfl, ⟨h1, h2, h3, h4⟩, rfl⟩ := encSpec_some hd
  exact ⟨fun _ => .bool _, (f_anyR_ok (dm := fun r => r.length ≤ 1099511627776) (caps := [.ref [.list (gs.map eGp)]]) (p := fun r => fitsB gs r) f_stepC1_ok (fun x hx => g_stepC1_eq ⟨h3, hx, fun g hg => (h4 g hg).1⟩) _ _ (gAnyD_eq eRow_inj h1 h2)).2⟩
theorem fits_mem : ∀ {gs : List Gp} {r : List Pt}, fitsB gs r = true → ∀ g ∈ gs, ∃ p ∈ r, fitB g p = true
  | [], _, _, g, hg => by simp at hg
  | x :: gs, [], h, _, _ => by simp [fitsB] at h
  | x :: gs, p :: r, h, g, hg => by
    rw [fitsB, Bool.and_eq_true] at h
    rcases List.mem_cons.1 hg with rfl | hg
    · exact ⟨p, by simp, h.1⟩
    · obtain ⟨q, hq, h2⟩ := fits_mem h.2 g hg
      exact ⟨q, by simp [hq], h2⟩
theorem fit_words {g : Gp} {p : Pt} (h : fitB g p = true) (hp : PtOK p) : g.words ≠ [] ∧ g.name = p.sep := by
  unfold fitB at h
  simp only [Bool.and_eq_true, decide_eq_true_eq, beq_iff_eq] at h
  refine ⟨fun e => ?_, h.1⟩
  have := h.2.1
  rw [e] at this
  simp only [List.length_nil] at this
  rcases hp with hp | ⟨hp, _⟩ <;> rw [hp] at this <;> omega
theorem rows_four {w : Bs} (h : (rowsB w).2 = 4) : (rowsB w).1 = rw_link := by
  unfold rowsB at h ⊢
  repeat' split at h
  all_goals first | (exfalso; revert h; decide) | skip
  simp only [*, if_true, Bool.false_eq_true, if_false]
theorem fits_facts {w : Bs} {gs : List Gp} (h : (rowsB w).1.any (fun r => fitsB gs r) = true) : (∀ g ∈ gs, g.words ≠ []) ∧ ((rowsB w).2 = 4 → ∀ g ∈ gs, g.name = [] ∨ g.name = kUsing ∨ g.name = kTo) := by
  rw [List.any_eq_true] at h
  obtain ⟨r, hr, hf⟩ := h
  refine ⟨fun g hg => ?_, fun h4 g hg => ?_⟩
  · obtain ⟨p, hp, hfp⟩ := fits_mem hf g hg
    exact (fit_words hfp (rows_ok w r hr p hp)).1
  · obtain ⟨p, hp, hfp⟩ := fits_mem hf g hg
    rw [(fit_words hfp (rows_ok w r hr p hp)).2]
    rw [rows_four h4] at hr
    have hall : ∀ r ∈ rw_link, ∀ p ∈ r, p.sep = [] ∨ p.sep = kUsing ∨ p.sep = kTo := by
      unfold rw_link kUsing kTo
      decide
    exact hall r hr p hp
end Go.Ab
