/-
  One text of the proof (own work): contracts of functions of the program, by the abstract machine.
-/
import Derived.Test.YtlfmbcjjojedgaaGreatDoorX19
import Derived.Test.YtlfmbcjjojedgaaGreatDoorX30
set_option linter.unusedVariables false
set_option linter.unusedSimpArgs false
namespace Go.Ab
open Go Go.RowKit Go.Proofs
set_option maxRecDepth 10000
set_option maxHeartbeats 8000000
mutual
def formE : LX → Int
  | .mk k n e l => if nodeE (.mk k n e l) == 0 then formsE l else nodeE (.mk k n e l)
def formsE : List LX → Int
  | [] => 0
  | x :: l => if formE x == 0 then formsE l else formE x
end
theorem formE_eq (x : LX) : formE x = if nodeE x == 0 then formsE x.kids else nodeE x := by cases x; rw [formE]; rfl
theorem formsE_drop {l : List LX} {i : Nat} (h : i < l.length) : formsE (l.drop i) = if formE l[i] == 0 then formsE (l.drop (i + 1)) else formE l[i] := by
  rw [List.drop_eq_getElem_cons h, formsE]
def nodeF (b0 b1 b2 b3 c4 c5 c6 c7 c8 c9 : Bool) : Int :=
  if b0 || b1 then 1 else if b2 then (if c7 || (!c4 || !c5) then 1 else 0) else if c6 || (b3 && !c5) then 1 else if !c8 || (!c5 && !c9) then 2 else 0
theorem nodeE_form (x : LX) : nodeE x = nodeF (decide (x.kind < 0)) (decide (x.kind > 3)) (decide (x.kind ≥ 2)) (x.kind == 1) (x.name == []) (x.exc == []) (decide ((x.kids.length : Int) > 0)) (decide ((x.kids.length : Int) < 2)) (isNameB x.name) (isNameB x.exc) := by
  unfold nodeE nodeF
  generalize x.kind = k
  have h : k = 0 ∨ k = 1 ∨ k = 2 ∨ k = 3 ∨ k < 0 ∨ k > 3 := by omega
  rcases h with rfl | rfl | rfl | rfl | h | h
  · rfl
  · rfl
  · rfl
  · rfl
  · rw [decide_eq_true h, beq_eq_false_iff_ne.2 (show k ≠ 0 by omega), beq_eq_false_iff_ne.2 (show k ≠ 1 by omega), beq_eq_false_iff_ne.2 (show k ≠ 2 by omega), beq_eq_false_iff_ne.2 (show k ≠ 3 by omega)]
    rfl
  · rw [decide_eq_true h, beq_eq_false_iff_ne.2 (show k ≠ 0 by omega), beq_eq_false_iff_ne.2 (show k ≠ 1 by omega), beq_eq_false_iff_ne.2 (show k ≠ 2 by omega), beq_eq_false_iff_ne.2 (show k ≠ 3 by omega), decide_eq_false (show ¬ k < 0 by omega)]
    rfl
noncomputable def g_form (h : Nat) : List D → Option D := encSpec (fun x : LX => [eX x]) (fun x : LX => x.hgt ≤ h ∧ x.Bd 1099511627776) (fun x : LX => i64 (formE x))
theorem g_form_eq {h : Nat} {x : LX} (hd : x.hgt ≤ h ∧ x.Bd 1099511627776) : g_form h [.agg [.int .i64 x.kind, .str x.name, .str x.exc, .list (x.kids.map eX)]] = some (i64 (formE x)) := by
  have e : g_form h [eX x] = some (i64 (formE x)) := encSpec_eq (x := x) hd fun y hy => by
    simp only [List.cons.injEq, and_true, true_and, D.str.injEq, D.int.injEq, D.list.injEq, D.bool.injEq, D.agg.injEq, D.clo.injEq, Int.natCast_inj, inj_ie, lx_ie] at hy
    rw [hy]
  exact (congrArg (g_form h) (by rw [← eX_eq x])).trans e
theorem f_form_ok : ∀ h : Nat, PureOK Tryz.prog 96 true (g_form h)
 | 0 => pure_void (by
    rintro x ⟨hx, _⟩
    (try dsimp only at hx)
    have := x.hgt_pos
    omega)
 | h + 1 => by
  have ih := f_form_ok h
  have hΓ := Γp ih (Γp f_name_ok (Γn))
  refine pure_enc (n := 75) (rs := [.tmp 2]) Tryz.func96 (by kernel_rfl) rfl (by kernel_rfl) (by kernel_rfl) ?_
  rintro x hd
  (try dsimp only at hd ⊢)
  refine ⟨fun _ => by (repeat (first | exact .int _ _ | exact .bool _ | exact .str _ | (refine .tup _ (fun d hd => ?_); simp only [List.mem_cons, List.not_mem_nil, or_false] at hd; rcases hd with rfl | hd))), fun k hz0 => ?_⟩
  have e1 := g_name_eq hd.2.n
  have e2 := g_name_eq hd.2.e
  have hz := hd.2.z
  have hl := x.len_le
  rw [formE_eq, nodeE_form]
  rw [start_frame (by simp)]; simp only [enumV, go_sem, emptyH]
  generalize hb0 : decide (x.kind < 0) = b0
  generalize hb1 : decide (x.kind > 3) = b1
  generalize hb2 : decide (x.kind ≥ 2) = b2
  generalize hb3 : (x.kind == 1) = b3
  generalize hc4 : (x.name == []) = c4
  generalize hc5 : (x.exc == []) = c5
  generalize hc6 : decide ((x.kids.length : Int) > 0) = c6
  generalize hc7 : decide ((x.kids.length : Int) < 2) = c7
  generalize isNameB x.name = c8 at *
  generalize isNameB x.exc = c9 at *
  cases b0
  rotate_left
  · ((repeat (first | (apply axJ; (focus ((with_reducible constructor) <;> rfl))) | (apply awT mixedOK hΓ (by kernel_rfl); (simp (disch := omega) only [go_sem, ↓reduceIte, hb0, hb1] <;> with_reducible rfl)) | ((first | apply awR hΓ | apply awG | apply awH mixedOK hΓ rfl (by kernel_rfl) | apply ovE rfl); (simp (disch := omega) only [go_sem, ↓reduceIte, hb0, hb1] <;> with_reducible rfl); exact trivial) | rfl)); (first | done | rfl))
  cases b1
  rotate_left
  · ((repeat (first | (apply axJ; (focus ((with_reducible constructor) <;> rfl))) | (apply awT mixedOK hΓ (by kernel_rfl); (simp (disch := omega) only [go_sem, ↓reduceIte, hb0, hb1] <;> with_reducible rfl)) | ((first | apply awR hΓ | apply awG | apply awH mixedOK hΓ rfl (by kernel_rfl) | apply ovE rfl); (simp (disch := omega) only [go_sem, ↓reduceIte, hb0, hb1] <;> with_reducible rfl); exact trivial) | rfl)); (first | done | rfl))
  repeat (first
    | (apply axJ; (focus ((with_reducible constructor) <;> rfl)))
    | (apply awT mixedOK hΓ (by kernel_rfl); (simp (disch := omega) only [go_sem, ↓reduceIte, hb0, hb1, hb2] <;> with_reducible rfl))
    | ((first | apply awR hΓ | apply awG | apply awH mixedOK hΓ rfl (by kernel_rfl) | apply ovE rfl); (simp (disch := omega) only [go_sem, ↓reduceIte, hb0, hb1, hb2] <;> with_reducible rfl); exact trivial)
    | rfl)
  refine awp_mid (fun _ : Unit => (frame 75 [(1, .ptr 0 0)])) (fun _ => [(0, .box [.data (.int .i64 x.kind), .data (.str x.name), .data (.str x.exc), .data (.list (x.kids.map eX))])]) 40 (fun _ => nodeF false false b2 b3 c4 c5 c6 c7 c8 c9 = 0) ?_ ?_
  · (cases b2; (focus (cases c6; (focus (cases b3; (focus (cases c8; (focus ((repeat (first | (apply axJ; (focus ((with_reducible constructor) <;> rfl))) | (apply awT mixedOK hΓ (by kernel_rfl); (simp (disch := omega) only [go_sem, ↓reduceIte, hb3, hc4, hc5, hc6, hc7, e1, e2] <;> with_reducible rfl)) | ((first | apply awR hΓ | apply awG | apply awH mixedOK hΓ rfl (by kernel_rfl) | apply ovE rfl); (simp (disch := omega) only [go_sem, ↓reduceIte, hb3, hc4, hc5, hc6, hc7, e1, e2] <;> with_reducible rfl); exact trivial) | rfl)); (first | done | rfl | exact ⟨(), rfl, Weak.w⟩))); (focus (cases c5; (focus (cases c9; (focus ((repeat (first | (apply axJ; (focus ((with_reducible constructor) <;> rfl))) | (apply awT mixedOK hΓ (by kernel_rfl); (simp (disch := omega) only [go_sem, ↓reduceIte, hb3, hc4, hc5, hc6, hc7, e1, e2] <;> with_reducible rfl)) | ((first | apply awR hΓ | apply awG | apply awH mixedOK hΓ rfl (by kernel_rfl) | apply ovE rfl); (simp (disch := omega) only [go_sem, ↓reduceIte, hb3, hc4, hc5, hc6, hc7, e1, e2] <;> with_reducible rfl); exact trivial) | rfl)); (first | done | rfl | exact ⟨(), rfl, Weak.w⟩))); (focus ((repeat (first | (apply axJ; (focus ((with_reducible constructor) <;> rfl))) | (apply awT mixedOK hΓ (by kernel_rfl); (simp (disch := omega) only [go_sem, ↓reduceIte, hb3, hc4, hc5, hc6, hc7, e1, e2] <;> with_reducible rfl)) | ((first | apply awR hΓ | apply awG | apply awH mixedOK hΓ rfl (by kernel_rfl) | apply ovE rfl); (simp (disch := omega) only [go_sem, ↓reduceIte, hb3, hc4, hc5, hc6, hc7, e1, e2] <;> with_reducible rfl); exact trivial) | rfl)); (first | done | rfl | exact ⟨(), rfl, Weak.w⟩))))); (focus ((repeat (first | (apply axJ; (focus ((with_reducible constructor) <;> rfl))) | (apply awT mixedOK hΓ (by kernel_rfl); (simp (disch := omega) only [go_sem, ↓reduceIte, hb3, hc4, hc5, hc6, hc7, e1, e2] <;> with_reducible rfl)) | ((first | apply awR hΓ | apply awG | apply awH mixedOK hΓ rfl (by kernel_rfl) | apply ovE rfl); (simp (disch := omega) only [go_sem, ↓reduceIte, hb3, hc4, hc5, hc6, hc7, e1, e2] <;> with_reducible rfl); exact trivial) | rfl)); (first | done | rfl | exact ⟨(), rfl, Weak.w⟩))))))); (focus (cases c5; (focus ((repeat (first | (apply axJ; (focus ((with_reducible constructor) <;> rfl))) | (apply awT mixedOK hΓ (by kernel_rfl); (simp (disch := omega) only [go_sem, ↓reduceIte, hb3, hc4, hc5, hc6, hc7, e1, e2] <;> with_reducible rfl)) | ((first | apply awR hΓ | apply awG | apply awH mixedOK hΓ rfl (by kernel_rfl) | apply ovE rfl); (simp (disch := omega) only [go_sem, ↓reduceIte, hb3, hc4, hc5, hc6, hc7, e1, e2] <;> with_reducible rfl); exact trivial) | rfl)); (first | done | rfl | exact ⟨(), rfl, Weak.w⟩))); (focus (cases c8; (focus ((repeat (first | (apply axJ; (focus ((with_reducible constructor) <;> rfl))) | (apply awT mixedOK hΓ (by kernel_rfl); (simp (disch := omega) only [go_sem, ↓reduceIte, hb3, hc4, hc5, hc6, hc7, e1, e2] <;> with_reducible rfl)) | ((first | apply awR hΓ | apply awG | apply awH mixedOK hΓ rfl (by kernel_rfl) | apply ovE rfl); (simp (disch := omega) only [go_sem, ↓reduceIte, hb3, hc4, hc5, hc6, hc7, e1, e2] <;> with_reducible rfl); exact trivial) | rfl)); (first | done | rfl | exact ⟨(), rfl, Weak.w⟩))); (focus ((repeat (first | (apply axJ; (focus ((with_reducible constructor) <;> rfl))) | (apply awT mixedOK hΓ (by kernel_rfl); (simp (disch := omega) only [go_sem, ↓reduceIte, hb3, hc4, hc5, hc6, hc7, e1, e2] <;> with_reducible rfl)) | ((first | apply awR hΓ | apply awG | apply awH mixedOK hΓ rfl (by kernel_rfl) | apply ovE rfl); (simp (disch := omega) only [go_sem, ↓reduceIte, hb3, hc4, hc5, hc6, hc7, e1, e2] <;> with_reducible rfl); exact trivial) | rfl)); (first | done | rfl | exact ⟨(), rfl, Weak.w⟩))))))))); (focus ((repeat (first | (apply axJ; (focus ((with_reducible constructor) <;> rfl))) | (apply awT mixedOK hΓ (by kernel_rfl); (simp (disch := omega) only [go_sem, ↓reduceIte, hb3, hc4, hc5, hc6, hc7, e1, e2] <;> with_reducible rfl)) | ((first | apply awR hΓ | apply awG | apply awH mixedOK hΓ rfl (by kernel_rfl) | apply ovE rfl); (simp (disch := omega) only [go_sem, ↓reduceIte, hb3, hc4, hc5, hc6, hc7, e1, e2] <;> with_reducible rfl); exact trivial) | rfl)); (first | done | rfl | exact ⟨(), rfl, Weak.w⟩))))); (focus (cases c7; (focus (cases c4; (focus ((repeat (first | (apply axJ; (focus ((with_reducible constructor) <;> rfl))) | (apply awT mixedOK hΓ (by kernel_rfl); (simp (disch := omega) only [go_sem, ↓reduceIte, hb3, hc4, hc5, hc6, hc7, e1, e2] <;> with_reducible rfl)) | ((first | apply awR hΓ | apply awG | apply awH mixedOK hΓ rfl (by kernel_rfl) | apply ovE rfl); (simp (disch := omega) only [go_sem, ↓reduceIte, hb3, hc4, hc5, hc6, hc7, e1, e2] <;> with_reducible rfl); exact trivial) | rfl)); (first | done | rfl | exact ⟨(), rfl, Weak.w⟩))); (focus (cases c5; (focus ((repeat (first | (apply axJ; (focus ((with_reducible constructor) <;> rfl))) | (apply awT mixedOK hΓ (by kernel_rfl); (simp (disch := omega) only [go_sem, ↓reduceIte, hb3, hc4, hc5, hc6, hc7, e1, e2] <;> with_reducible rfl)) | ((first | apply awR hΓ | apply awG | apply awH mixedOK hΓ rfl (by kernel_rfl) | apply ovE rfl); (simp (disch := omega) only [go_sem, ↓reduceIte, hb3, hc4, hc5, hc6, hc7, e1, e2] <;> with_reducible rfl); exact trivial) | rfl)); (first | done | rfl | exact ⟨(), rfl, Weak.w⟩))); (focus ((repeat (first | (apply axJ; (focus ((with_reducible constructor) <;> rfl))) | (apply awT mixedOK hΓ (by kernel_rfl); (simp (disch := omega) only [go_sem, ↓reduceIte, hb3, hc4, hc5, hc6, hc7, e1, e2] <;> with_reducible rfl)) | ((first | apply awR hΓ | apply awG | apply awH mixedOK hΓ rfl (by kernel_rfl) | apply ovE rfl); (simp (disch := omega) only [go_sem, ↓reduceIte, hb3, hc4, hc5, hc6, hc7, e1, e2] <;> with_reducible rfl); exact trivial) | rfl)); (first | done | rfl | exact ⟨(), rfl, Weak.w⟩))))))); (focus ((repeat (first | (apply axJ; (focus ((with_reducible constructor) <;> rfl))) | (apply awT mixedOK hΓ (by kernel_rfl); (simp (disch := omega) only [go_sem, ↓reduceIte, hb3, hc4, hc5, hc6, hc7, e1, e2] <;> with_reducible rfl)) | ((first | apply awR hΓ | apply awG | apply awH mixedOK hΓ rfl (by kernel_rfl) | apply ovE rfl); (simp (disch := omega) only [go_sem, ↓reduceIte, hb3, hc4, hc5, hc6, hc7, e1, e2] <;> with_reducible rfl); exact trivial) | rfl)); (first | done | rfl | exact ⟨(), rfl, Weak.w⟩))))))
  · intro _ hn0
    rw [hn0]
    repeat (first
      | (apply axJ; (focus ((with_reducible constructor) <;> rfl)))
      | (apply awT mixedOK hΓ (by kernel_rfl); (simp (disch := omega) only [go_sem, ↓reduceIte, dk] <;> with_reducible rfl))
      | ((first | apply awR hΓ | apply awG | apply awH mixedOK hΓ rfl (by kernel_rfl) | apply ovE rfl); (simp (disch := omega) only [go_sem, ↓reduceIte, dk] <;> with_reducible rfl); exact trivial)
      | rfl)
    refine awp_loop_at (X := Nat) (fun i => (frame 75 [(1, .ptr 0 0), (3, .data (i64 i))])) (fun _ => [(0, .box [.data (.int .i64 x.kind), .data (.str x.name), .data (.str x.exc), .data (.list (x.kids.map eX))])]) 42
      (fun i => i ≤ x.kids.length ∧ formsE x.kids = formsE (x.kids.drop i)) (fun i => x.kids.length - i) 0 ⟨Nat.zero_le _, rfl⟩ (Weak.w) ?_
    rintro i ⟨hi, he⟩
    by_cases hi2 : i < x.kids.length
    · have e := g_form_eq (kid_at hi2 hd)
      rw [formsE_drop hi2] at he
      rw [he]
      generalize hy : x.kids[i] = y at *
      by_cases hf : formE y = 0
      · rw [hf] at e he ⊢
        repeat (first
          | (apply axJ; (focus ((with_reducible constructor) <;> rfl)))
          | (apply awT mixedOK hΓ (by kernel_rfl); (simp (disch := omega) only [go_sem, ↓reduceIte, dk, hy, e, Int.reduceBEq, Int.reduceBNe, Bool.true_bne, Bool.false_bne, Bool.not_true, Bool.not_false] <;> with_reducible rfl))
          | ((first | apply awR hΓ | apply awG | apply awH mixedOK hΓ rfl (by kernel_rfl) | apply ovE rfl); (simp (disch := omega) only [go_sem, ↓reduceIte, dk, hy, e, Int.reduceBEq, Int.reduceBNe, Bool.true_bne, Bool.false_bne, Bool.not_true, Bool.not_false] <;> with_reducible rfl); exact trivial)
          | rfl)
        exact ⟨i + 1, ⟨by omega, rfl⟩, by omega, Weak.w⟩
      · have hb : (formE y == 0) = false := beq_eq_false_iff_ne.2 hf
        have hb2 : (formE y != 0) = true := by simp [bne, hb]
        rw [hb]
        generalize formE y = r at *
        repeat (first
          | (apply axJ; (focus ((with_reducible constructor) <;> rfl)))
          | (apply awT mixedOK hΓ (by kernel_rfl); (simp (disch := omega) only [go_sem, ↓reduceIte, dk, hy, e, hb2] <;> with_reducible rfl))
          | ((first | apply awR hΓ | apply awG | apply awH mixedOK hΓ rfl (by kernel_rfl) | apply ovE rfl); (simp (disch := omega) only [go_sem, ↓reduceIte, dk, hy, e, hb2] <;> with_reducible rfl); exact trivial)
          | rfl)
        try rfl
    · have hi' : i = x.kids.length := by omega
      subst hi'
      rw [he, List.drop_eq_nil_of_le (Nat.le_refl _)]
      repeat (first
        | (apply axJ; (focus ((with_reducible constructor) <;> rfl)))
        | (apply awT mixedOK hΓ (by kernel_rfl); (simp (disch := omega) only [go_sem, ↓reduceIte, dk] <;> with_reducible rfl))
        | ((first | apply awR hΓ | apply awG | apply awH mixedOK hΓ rfl (by kernel_rfl) | apply ovE rfl); (simp (disch := omega) only [go_sem, ↓reduceIte, dk] <;> with_reducible rfl); exact trivial)
        | rfl)
      try rfl
def checkE (x : LX) : Int := if decide ((x.size : Int) > 64) then 10 else if decide ((x.hgt : Int) > 24) then 11 else formE x
noncomputable def g_checkR : List D → Option D := encSpec (fun x : LX => [eX x]) (fun x : LX => x.Bd 1099511627776) (fun x : LX => i64 (checkE x))
theorem g_checkR_eq {x : LX} (hd : x.Bd 1099511627776) : g_checkR [.agg [.int .i64 x.kind, .str x.name, .str x.exc, .list (x.kids.map eX)]] = some (i64 (checkE x)) := by
  have e : g_checkR [eX x] = some (i64 (checkE x)) := encSpec_eq (x := x) hd fun y hy => by
    simp only [List.cons.injEq, and_true, true_and, D.str.injEq, D.int.injEq, D.list.injEq, D.bool.injEq, D.agg.injEq, D.clo.injEq, Int.natCast_inj, inj_ie, lx_ie] at hy
    rw [hy]
  exact (congrArg (g_checkR) (by rw [← eX_eq x])).trans e
theorem f_checkR_ok : PureOK Tryz.prog 56 true g_checkR := by
  have hΓ := Γp (f_size_ok 1099511627776) (Γp (f_depthR_ok 1099511627776) (Γp (f_form_ok 1099511627776) (Γn)))
  refine pure_enc (n := 11) (rs := [.tmp 2]) Tryz.func56 (by kernel_rfl) rfl (by kernel_rfl) (by kernel_rfl) ?_
  rintro x hd
  (try dsimp only at hd ⊢)
  refine ⟨fun _ => by (repeat (first | exact .int _ _ | exact .bool _ | exact .str _ | (refine .tup _ (fun d hd => ?_); simp only [List.mem_cons, List.not_mem_nil, or_false] at hd; rcases hd with rfl | hd))), fun k hz0 => ?_⟩
  have hh : x.hgt ≤ 1099511627776 := Nat.le_trans x.hgt_le hd.z
  have e1 := g_size_eq ⟨hh, hd⟩
  have e2 := g_depthR_eq ⟨hh, hd⟩
  have e3 := g_form_eq ⟨hh, hd⟩
  unfold checkE
  rw [start_frame (by simp)]; simp only [enumV, go_sem, emptyH]
  generalize hc1 : decide ((x.size : Int) > 64) = c1
  generalize hc2 : decide ((x.hgt : Int) > 24) = c2
  (cases c1; (focus (cases c2; (focus ((repeat (first | (apply axJ; (focus ((with_reducible constructor) <;> rfl))) | (apply awT mixedOK hΓ (by kernel_rfl); (simp (disch := omega) only [go_sem, ↓reduceIte, dk, hc1, hc2, e1, e2, e3] <;> with_reducible rfl)) | ((first | apply awR hΓ | apply awG | apply awH mixedOK hΓ rfl (by kernel_rfl) | apply ovE rfl); (simp (disch := omega) only [go_sem, ↓reduceIte, dk, hc1, hc2, e1, e2, e3] <;> with_reducible rfl); exact trivial) | rfl)); (first | done | rfl))); (focus ((repeat (first | (apply axJ; (focus ((with_reducible constructor) <;> rfl))) | (apply awT mixedOK hΓ (by kernel_rfl); (simp (disch := omega) only [go_sem, ↓reduceIte, dk, hc1, hc2, e1, e2, e3] <;> with_reducible rfl)) | ((first | apply awR hΓ | apply awG | apply awH mixedOK hΓ rfl (by kernel_rfl) | apply ovE rfl); (simp (disch := omega) only [go_sem, ↓reduceIte, dk, hc1, hc2, e1, e2, e3] <;> with_reducible rfl); exact trivial) | rfl)); (first | done | rfl))))); (focus ((repeat (first | (apply axJ; (focus ((with_reducible constructor) <;> rfl))) | (apply awT mixedOK hΓ (by kernel_rfl); (simp (disch := omega) only [go_sem, ↓reduceIte, dk, hc1, hc2, e1, e2, e3] <;> with_reducible rfl)) | ((first | apply awR hΓ | apply awG | apply awH mixedOK hΓ rfl (by kernel_rfl) | apply ovE rfl); (simp (disch := omega) only [go_sem, ↓reduceIte, dk, hc1, hc2, e1, e2, e3] <;> with_reducible rfl); exact trivial) | rfl)); (first | done | rfl))))
mutual
def cntX : LX → Int → Nat → Int
  | .mk _ n e l, most, d => match d with
    | 0 => most + 1
    | d + 1 => cntXs l (1 + ((n.length : Int) + e.length) / 40) most d
def cntXs : List LX → Int → Int → Nat → Int
  | [], c, _, _ => c
  | x :: l, c, most, d => if c ≤ most then cntXs l (c + cntX x (most - c) d) most d else c
end
end Go.Ab
namespace Go.Ab
open Go Go.RowKit Go.Proofs
set_option maxRecDepth 10000
set_option maxHeartbeats 8000000
structure Res where
  expr : LX
  at' : Nat
  err : Int
@[go_sem] def eRes (r : Res) : D := .agg [.int .i64 r.expr.kind, .str r.expr.name, .str r.expr.exc, .list (r.expr.kids.map eX), .int .i64 r.at', .int .i64 r.err]
@[go_sem] theorem lx_kind (k : Int) (n e : List UInt8) (l : List LX) : (LX.mk k n e l).kind = k := rfl
@[go_sem] theorem lx_name (k : Int) (n e : List UInt8) (l : List LX) : (LX.mk k n e l).name = n := rfl
@[go_sem] theorem lx_exc (k : Int) (n e : List UInt8) (l : List LX) : (LX.mk k n e l).exc = e := rfl
@[go_sem] theorem lx_kids (k : Int) (n e : List UInt8) (l : List LX) : (LX.mk k n e l).kids = l := rfl
def x0 : LX := .mk 0 [] [] []
def wrongR (a : Nat) (e : Int) : Res := ⟨x0, a, e⟩
noncomputable def g_wrong : List D → Option D := encSpec (fun x : Nat × Int => [i64 x.1, i64 x.2]) (fun x : Nat × Int => True) (fun x : Nat × Int => eRes (wrongR x.1 x.2))
theorem g_wrong_eq {a : Nat} {e : Int} (hd : True) : g_wrong [.int .i64 a, .int .i64 e] = some (eRes (wrongR a e)) := encSpec_eq (x := (a, e)) hd fun y hy => by
    obtain ⟨y0, y1⟩ := y; simp only [List.cons.injEq, and_true, true_and, D.str.injEq, D.int.injEq, D.list.injEq, D.bool.injEq, D.agg.injEq, D.clo.injEq, Int.natCast_inj, inj_ie, lx_ie] at hy
    (try obtain ⟨rfl, rfl⟩ := hy)
    (try subst_vars)
    rfl
theorem f_wrong_ok : PureOK Tryz.prog 92 false g_wrong := by
  have hΓ := Γ0_ok
  refine pure_enc (n := 8) (rs := [.cell 4 78]) Tryz.func92 (by kernel_rfl) rfl (by kernel_rfl) (by kernel_rfl) ?_
  rintro ⟨a, e⟩ hd
  (try dsimp only at hd ⊢)
  refine ⟨fun h => (by cases h), fun k hz0 => ?_⟩
  rw [start_frame (by simp)]; simp only [enumV, go_sem, emptyH]
  repeat (first
    | (apply axJ; (focus ((with_reducible constructor) <;> rfl)))
    | (apply awT mixedOK hΓ (by kernel_rfl); (simp (disch := omega) only [go_sem, ↓reduceIte, ↓lk, ↓ty_build78, wrongR, x0] <;> with_reducible rfl))
    | ((first | apply awR hΓ | apply awG | apply awH mixedOK hΓ rfl (by kernel_rfl) | apply ovE rfl); (simp (disch := omega) only [go_sem, ↓reduceIte, ↓lk, ↓ty_build78, wrongR, x0] <;> with_reducible rfl); exact trivial)
    | rfl)
def rName (s : List UInt8) (a : Nat) : Res :=
  if wordN s (skipN s a) == [] then wrongR (skipN s a) 4
  else if !(isNameB (wordN s (skipN s a))) then wrongR (skipN s a) 2
  else ⟨.mk 0 (wordN s (skipN s a)) [] [], skipN s a + (wordN s (skipN s a)).length, 0⟩
theorem wordN_le (s : List UInt8) (a : Nat) (h : a ≤ s.length) : a + (wordN s a).length ≤ s.length := by
  have h1 := List.IsPrefix.length_le (List.takeWhile_prefix letter (l := s.drop a))
  rw [List.length_drop] at h1
  unfold wordN
  omega
noncomputable def g_rname : List D → Option D := encSpec (fun x : (List UInt8) × Nat => [.str x.1, i64 x.2]) (fun x : (List UInt8) × Nat => x.1.length ≤ 1099511627776 ∧ x.2 ≤ x.1.length) (fun x : (List UInt8) × Nat => eRes (rName x.1 x.2))
theorem g_rname_eq {s : List UInt8} {a : Nat} (hd : s.length ≤ 1099511627776 ∧ a ≤ s.length) : g_rname [.str s, .int .i64 a] = some (eRes (rName s a)) := encSpec_eq (x := (s, a)) hd fun y hy => by
    obtain ⟨y0, y1⟩ := y; simp only [List.cons.injEq, and_true, true_and, D.str.injEq, D.int.injEq, D.list.injEq, D.bool.injEq, D.agg.injEq, D.clo.injEq, Int.natCast_inj, inj_ie, lx_ie] at hy
    (try obtain ⟨rfl, rfl⟩ := hy)
    (try subst_vars)
    rfl
theorem f_rname_ok : PureOK Tryz.prog 148 false g_rname := by
  have hΓ := Γp f_skip_ok (Γp f_word_ok (Γp f_wrong_ok (Γp f_name_ok (Γn))))
  refine pure_enc (n := 28) (rs := [.cell 4 78]) Tryz.func148 (by kernel_rfl) rfl (by kernel_rfl) (by kernel_rfl) ?_
  rintro ⟨s, a⟩ hd
  (try dsimp only at hd ⊢)
  refine ⟨fun h => (by cases h), fun k hz0 => ?_⟩
  obtain ⟨hs, ha⟩ := hd
  have h1 : a ≤ skipN s a ∧ skipN s a ≤ s.length := runN_le ha
  have e1 := g_skip_eq ⟨hs, ha⟩
  have e2 := g_word_eq ⟨hs, h1.2⟩
  have hw := wordN_le s _ h1.2
  unfold rName
  generalize skipN s a = b at *
  have e3 := g_wrong_eq (a := b) (e := 4) trivial
  have e4 := g_wrong_eq (a := b) (e := 2) trivial
  generalize wordN s b = w at *
  have e5 := g_name_eq (s := w) (by omega)
  generalize isNameB w = c1 at *
  generalize hc0 : (w == []) = c0
  rw [start_frame (by simp)]; simp only [enumV, go_sem, emptyH]
  (cases c0; (focus (cases c1; (focus ((repeat (first | (apply axJ; (focus ((with_reducible constructor) <;> rfl))) | (apply awT mixedOK hΓ (by kernel_rfl); (simp (disch := omega) only [go_sem, ↓reduceIte, ↓lk, ↓ty_build33, ↓ty_build78, dk, e1, e2, e3, e4, e5, hc0] <;> with_reducible rfl)) | ((first | apply awR hΓ | apply awG | apply awH mixedOK hΓ rfl (by kernel_rfl) | apply ovE rfl); (simp (disch := omega) only [go_sem, ↓reduceIte, ↓lk, ↓ty_build33, ↓ty_build78, dk, e1, e2, e3, e4, e5, hc0] <;> with_reducible rfl); exact trivial) | rfl)); (first | done | rfl))); (focus ((repeat (first | (apply axJ; (focus ((with_reducible constructor) <;> rfl))) | (apply awT mixedOK hΓ (by kernel_rfl); (simp (disch := omega) only [go_sem, ↓reduceIte, ↓lk, ↓ty_build33, ↓ty_build78, dk, e1, e2, e3, e4, e5, hc0] <;> with_reducible rfl)) | ((first | apply awR hΓ | apply awG | apply awH mixedOK hΓ rfl (by kernel_rfl) | apply ovE rfl); (simp (disch := omega) only [go_sem, ↓reduceIte, ↓lk, ↓ty_build33, ↓ty_build78, dk, e1, e2, e3, e4, e5, hc0] <;> with_reducible rfl); exact trivial) | rfl)); (first | done | rfl))))); (focus ((repeat (first | (apply axJ; (focus ((with_reducible constructor) <;> rfl))) | (apply awT mixedOK hΓ (by kernel_rfl); (simp (disch := omega) only [go_sem, ↓reduceIte, ↓lk, ↓ty_build33, ↓ty_build78, dk, e1, e2, e3, e4, e5, hc0] <;> with_reducible rfl)) | ((first | apply awR hΓ | apply awG | apply awH mixedOK hΓ rfl (by kernel_rfl) | apply ovE rfl); (simp (disch := omega) only [go_sem, ↓reduceIte, ↓lk, ↓ty_build33, ↓ty_build78, dk, e1, e2, e3, e4, e5, hc0] <;> with_reducible rfl); exact trivial) | rfl)); (first | done | rfl))))
def isAtI (s : List UInt8) (i : Nat) (c : Int) : Bool := match s[i]? with
  | some b => (b.toNat : Int) == c
  | none => false
theorem isAtI_lt {s : List UInt8} {i : Nat} {c : Int} (h : i < s.length) : isAtI s i c = ((s[i].toNat : Int) == c) := by unfold isAtI; rw [List.getElem?_eq_getElem h]
theorem isAtI_ge {s : List UInt8} {i : Nat} {c : Int} (h : s.length ≤ i) : isAtI s i c = false := by unfold isAtI; rw [List.getElem?_eq_none h]
theorem isAtI_true {s : List UInt8} {i : Nat} {c : Int} (h : isAtI s i c = true) : i < s.length := by
  rcases Nat.lt_or_ge i s.length with h1 | h1
  · exact h1
  · rw [isAtI_ge h1] at h; cases h
def rLoop (part : Nat → Res) (s : List UInt8) (kind : Int) (bw : List UInt8) : Nat → Nat → List LX → Res
  | 0, a, _ => wrongR a 4
  | n + 1, a, acc =>
    if (part a).err != 0 then part a
    else if wordN s (skipN s (part a).at') == bw then rLoop part s kind bw n (skipN s (part a).at' + bw.length) (acc ++ [(part a).expr])
    else if acc.length == 0 then ⟨(part a).expr, skipN s (part a).at', 0⟩
    else ⟨.mk kind [] [] (acc ++ [(part a).expr]), skipN s (part a).at', 0⟩
def rAtomF (s : List UInt8) (inner : Option (Nat → Res)) (a : Nat) : Res :=
  if isAtI s (skipN s a) 40 then
    match inner with
    | none => wrongR (skipN s a) 11
    | some f =>
      if (f (skipN s a + 1)).err != 0 then f (skipN s a + 1)
      else if isAtI s (skipN s (f (skipN s a + 1)).at') 41 then ⟨(f (skipN s a + 1)).expr, skipN s (f (skipN s a + 1)).at' + 1, 0⟩
      else wrongR (skipN s (f (skipN s a + 1)).at') 4
  else if (rName s (skipN s a)).err != 0 then rName s (skipN s a)
  else if isAtI s (skipN s (rName s (skipN s a)).at') 43 then ⟨.mk 1 (rName s (skipN s a)).expr.name (rName s (skipN s a)).expr.exc (rName s (skipN s a)).expr.kids, skipN s (rName s (skipN s a)).at' + 1, 0⟩
  else if wordN s (skipN s (rName s (skipN s a)).at') == [119, 105, 116, 104] then
    if (rName s (skipN s (rName s (skipN s a)).at' + 4)).err != 0 then rName s (skipN s (rName s (skipN s a)).at' + 4)
    else ⟨.mk (rName s (skipN s a)).expr.kind (rName s (skipN s a)).expr.name (rName s (skipN s (rName s (skipN s a)).at' + 4)).expr.name (rName s (skipN s a)).expr.kids, (rName s (skipN s (rName s (skipN s a)).at' + 4)).at', 0⟩
  else rName s (skipN s a)
def rAnds (s : List UInt8) (atom : Nat → Res) (a : Nat) : Res := rLoop atom s 2 [97, 110, 100] (s.length + 1) a []
def rOrs (s : List UInt8) (atom : Nat → Res) (a : Nat) : Res := rLoop (rAnds s atom) s 3 [111, 114] (s.length + 1) a []
def rAtom (s : List UInt8) : Nat → Nat → Res
  | 0 => rAtomF s none
  | d + 1 => rAtomF s (some (rOrs s (rAtom s d)))
structure GoodR (s : List UInt8) (a : Nat) (r : Res) : Prop where
  le : r.at' ≤ s.length
  lt : r.err = 0 → a < r.at'
  sz : r.err = 0 → r.expr.size ≤ r.at' - a
  bd : r.err = 0 → r.expr.Bd s.length
theorem goodR_wrong {s : List UInt8} {a b : Nat} {e : Int} (h : b ≤ s.length) (he : e ≠ 0) : GoodR s a (wrongR b e) := ⟨h, fun h => absurd h he, fun h => absurd h he, fun h => absurd h he⟩
theorem bd_leaf {m : Nat} {k : Int} {n e : List UInt8} (hm : 1 ≤ m) (hn : n.length ≤ m) (he : e.length ≤ m) : (LX.mk k n e []).Bd m := .mk _ hn he (by simpa [LX.size, LX.size.sizes] using hm) (fun y hy => by cases hy)
theorem goodR_name {s : List UInt8} {a b : Nat} (h : b ≤ s.length) (hab : a ≤ b) : GoodR s a (rName s b) := by
  have h1 : b ≤ skipN s b ∧ skipN s b ≤ s.length := runN_le h
  have hw := wordN_le s _ h1.2
  unfold rName
  generalize skipN s b = b1 at *
  generalize wordN s b1 = w at *
  split
  · exact goodR_wrong h1.2 (by decide)
  · rename_i hne
    split
    · exact goodR_wrong h1.2 (by decide)
    · have hpos : 0 < w.length := List.length_pos_iff.2 (by simpa using hne)
      exact ⟨hw, fun _ => by show a < b1 + w.length; omega, fun _ => by show (LX.mk 0 w [] []).size ≤ b1 + w.length - a; simp only [LX.size, LX.size.sizes]; omega, fun _ => bd_leaf (by omega) (by omega) (by simp)⟩
theorem name_kids {s : List UInt8} {a : Nat} : (rName s a).expr.kids = [] := by
  unfold rName
  split
  · rfl
  · split <;> rfl
end Go.Ab
