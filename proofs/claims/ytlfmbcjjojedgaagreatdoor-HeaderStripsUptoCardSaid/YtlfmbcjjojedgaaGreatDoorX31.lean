/-
  One text of the proof (own work): contracts of functions of the program, by the abstract machine.
-/
import Derived.Test.YtlfmbcjjojedgaaGreatDoorX19
import Derived.Test.YtlfmbcjjojedgaaGreatDoorX30
set_option linter.unusedVariables false
set_option linter.unusedSimpArgs false
namespace Go.Ab
open Go Go.RowKit Go.Proofs
set_option maxRecDepth 10000
set_option maxHeartbeats 8000000
noncomputable def g_patom (d : Nat) := locSpec (fun _ : List UInt8 × RS => [.ptr 0 0]) (fun x => [oRS x.1 x.2]) (fun x => PIn x.1 d x.2) (fun x => (.data (eX (pAtomD x.1 d x.2).1), [oRS x.1 (pAtomD x.1 d x.2).2]))
theorem g_patom_eq (d : Nat) (s : List UInt8) (r : RS) (hd : PIn s d r) : g_patom d [.ptr 0 0] [oRS s r] = some (.data (eX (pAtomD s d r).1), [oRS s (pAtomD s d r).2]) := locSpec_eq (x := (s, r)) hd fun y _ h2 => by
  obtain ⟨y1, y2⟩ := y
  simp only [List.cons.injEq, and_true] at h2
  obtain ⟨rfl, rfl⟩ := oRS_inj h2
  rfl
theorem call_patom (d k n : Nat) (tab : List (Nat × Obj)) (s : List UInt8) (r : RS) (hd : PIn s d r) : callLoc k ⟨(0, oRS s r) :: tab, n⟩ (g_patom d) [.ptr 0 0] = some (.data (eX (pAtomD s d r).1), ⟨(0, oRS s (pAtomD s d r).2) :: tab, k⟩) :=
  (callLoc_of (fp := [0]) rfl rfl rfl (g_patom_eq d s r hd) (Nat.le_refl _)).trans rfl
theorem f_patom_step (d : Nat) (inner : List UInt8 → Option (RS → LX × RS)) (hin : ∀ s, pAtomD s d = pAtomF s (inner s)) (gi : List AV → List Obj → Option (AV × List Obj)) (hgi : LocOK Tryz.prog 87 gi)
    (h0 : ∀ s f, inner s = some f → ∃ d', d = d' + 1 ∧ PartOK s d' f ∧ ∀ k n tab r, PIn s d' r → callLoc k ⟨(0, oRS s r) :: (1, .box [.ptr 0 0]) :: tab, n⟩ gi [.ptr 0 0, .data (.int .i64 3), .data (.str [111, 114]), .fn 118 [.ptr 1 0]] = some (.data (eX (f r).1), ⟨(0, oRS s (f r).2) :: (1, .box [.ptr 0 0]) :: tab, k⟩))
    (hn : ∀ s, inner s = none → d = 0) : LocOK Tryz.prog 89 (g_patom d) := by
  have hΓ := (Γq hgi (Γq f_peek_ok (Γq f_fail_ok (Γq f_take_ok (Γq f_pname_ok (Γn))))))
  refine loc_enc (n := 71) (rs := [.cell 2 33]) Tryz.func89 (by kernel_rfl) rfl (by kernel_rfl) (by kernel_rfl) ?_
  rintro ⟨s, ⟨a, o, e, h⟩⟩ hI k hz0
  dsimp only [oRS] at hz0 ⊢
  simp only [List.length_cons, List.length_nil] at hz0
  dsimp only at hI
  obtain ⟨hs, ha, he, hd24, ho⟩ := hI
  dsimp only at ha he ho
  subst he
  have hp := peek_ok (s := s) (r := ⟨a, o, 0, h⟩) (.inl ha)
  have c1 := fun k n tab => call_peek k n tab s a o 0 h ⟨by omega, by dsimp only; omega, .inl ha⟩
  have hnn := hn s
  have h00 := h0 s
  rw [hin s]
  generalize inner s = inn at *
  generalize hR : pAtomF s inn ⟨a, o, 0, h⟩ = R
  unfold pAtomF at hR
  generalize pPeek s ⟨a, o, 0, h⟩ = P at *
  obtain ⟨t, ⟨a1, o1, e1, h1⟩⟩ := P
  dsimp only at hp hR c1
  have hm := skipN_mono s a
  have hat := hp.at1
  have hop := hp.op1
  have htl := hp.tl
  dsimp only at hat hop htl
  simp only [oRS] at c1
  cases htp : (t == [40]) with
  | true =>
    rw [htp] at hR
    simp only [if_true] at hR
    have htt := eq_of_beq htp
    obtain ⟨he1, hl1⟩ := htl (by rw [htt]; simp)
    rw [htt] at hl1
    simp only [List.length_cons, List.length_nil] at hl1
    subst he1
    cases inn with
    | none =>
      have hd0 := hnn rfl
      subst hd0
      have hob : (o1 == 24) = true := by rw [hop, ho]; rfl
      have c2 := fun k n tab => call_fail k n tab s a1 o1 0 h1 11 a1
      simp only [oRS] at c2
      simp only at hR
      generalize hF : pFail ⟨a1, o1, 0, h1⟩ 11 a1 = F at *
      obtain ⟨a2, o2, e2, h2⟩ := F
      dsimp only at c2
      subst hR
      rw [start_frameA (by simp)]; simp only [enumA, enumO, List.length_cons, List.length_nil, Nat.reduceAdd, go_sem]
      (repeat (first | (apply axJ; (focus ((with_reducible constructor) <;> rfl))) | ((first | apply awR hΓ | apply awG | apply ovE rfl); (simp (disch := omega) only [go_sem, ↓reduceIte, ↓lk, dk, ↓c1, htp, hob] <;> with_reducible rfl); exact trivial) | rfl))
      (apply awp_lane3 (nst := false) (nst' := false) [false, false, false, false, false, true] mixedOK hΓ (n1 := 6) (by kernel_rfl) (by kernel_rfl); (focus (dsimp only [List.take_succ_cons, List.take_zero, Array.toList]; (repeat (first | (apply lane3_loud; (focus rfl); (focus rfl); (simp (disch := omega) only [go_sem, ↓reduceIte, dk, ↓c2, look_upd] <;> with_reducible rfl); (focus (first | (simp (disch := omega) only [go_sem, ↓reduceIte, dk, ↓c2, look_upd]; done) | (simp (disch := omega) only [go_sem, ↓reduceIte, dk, ↓c2, look_upd]; omega)))) | (apply lane3_quiet; (simp (disch := omega) only [go_sem, ↓reduceIte, dk, ↓c2, look_upd] <;> with_reducible rfl)))); exact lane3_nil)); (focus ((repeat' (first | exact True.intro | refine And.intro ?_ ?_)); all_goals (first | (left; decide) | (left; rfl) | (right; simp (disch := omega) only [go_sem, ↓reduceIte, dk, ↓c2, look_upd]; try with_reducible rfl)))); (simp (disch := omega) only [go_sem, ↓reduceIte, dk, ↓c2, look_upd] <;> with_reducible rfl))
      (repeat (first | (apply axJ; (focus ((with_reducible constructor) <;> rfl))) | ((first | apply awR hΓ | apply awG | apply ovE rfl); (simp (disch := omega) only [go_sem, ↓reduceIte, ↓lk, ↓ty_build33, dk] <;> with_reducible rfl); exact trivial) | rfl))
      (show RetL _ _ _ (.data (.agg [.int .i64 0, .str [], .str [], .list []])) _ _ _ _; refine retL_x rfl (x := .agg [.data (.int .i64 0), .data (.str []), .data (.str []), .nils]) (by simp (disch := omega) only [go_sem, ↓reduceIte, dk] <;> rfl) ?_; exact (Weak.agg1 (l := [.data (.int .i64 0), .data (.str []), .data (.str []), .nils]) (ds := [.int .i64 0, .str [], .str [], .list []]) ⟨rfl, rfl, rfl, Or.inr (Or.inl ⟨rfl, rfl⟩), trivial⟩ rfl).trans (Weak.of (by simp) ⟨rfl, trivial⟩ (by simp [TabSub, oRS, enumO, look, Obj.refsOK, refsOKs, AV.refsOK]) rfl))
    | some f =>
      obtain ⟨d', rfl, hpf, hcf⟩ := h00 f rfl
      have hob : (o1 == 24) = false := by rw [hop, ho, beq_eq_false_iff_ne]; omega
      have c2 := fun k n tab => call_take k n tab s a1 o1 0 h1 [40] (by omega) (by simp)
      have hin2 : PIn s d' ⟨a1 + 1, o1 + 1, 0, h1⟩ := ⟨hs, hl1, rfl, by omega, by dsimp only; rw [hop, ho]; omega⟩
      have c3 := fun k n tab => hcf k n tab _ hin2
      have hq := hpf _ hin2
      simp only [oRS, pTake, List.length_cons, List.length_nil, Nat.reduceAdd] at c2 c3
      simp only [pTake] at hR
      obtain ⟨⟨x, ⟨a3, o3, e3, h3⟩⟩, hQ⟩ : ∃ Q, f ⟨a1 + 1, o1 + 1, 0, h1⟩ = Q := ⟨_, rfl⟩
      simp only [hQ] at hq hR c3
      have hq1 := hq.mono
      have hq2 := hq.le
      have hq3 := hq.ok
      have hq4 := hq.op
      dsimp only at hq1 hq2 hq3 hq4
      have hor : a3 ≤ s.length ∨ e3 ≠ 0 := by
        by_cases h : e3 = 0
        · exact .inl (hq3 h)
        · exact .inr h
      have hp2 := peek_ok (s := s) (r := ⟨a3, o3, e3, h3⟩) hor
      have c4 := fun k n tab => call_peek k n tab s a3 o3 e3 h3 ⟨by omega, by dsimp only; omega, hor⟩
      generalize pPeek s ⟨a3, o3, e3, h3⟩ = P2 at *
      obtain ⟨t2, ⟨a4, o4, e4, h4⟩⟩ := P2
      dsimp only at hp2 hR c4
      have hm2 := skipN_mono s a3
      have hat2 := hp2.at1
      have hop2 := hp2.op1
      dsimp only at hat2 hop2
      simp only [oRS] at c4
      have hrange : -9223372036854775808 ≤ o4 - 1 ∧ o4 - 1 < 9223372036854775808 := by omega
      have hrange2 : -9223372036854775808 ≤ o1 + 1 ∧ o1 + 1 < 9223372036854775808 := by omega
      cases htq : (t2 != [41]) with
      | true =>
        have htq2 : (t2 == [41]) = false := by simpa [bne] using htq
        rw [htq] at hR
        simp only [if_true] at hR
        have c5 := fun k n tab => call_fail k n tab s a4 o4 e4 h4 4 a4
        have hf := fail_at ⟨a4, o4, e4, h4⟩ 4 a4
        generalize pFail ⟨a4, o4, e4, h4⟩ 4 a4 = F at *
        obtain ⟨a5, o5, e5, h5⟩ := F
        dsimp only at c5 hf hR
        obtain ⟨rfl, rfl, _⟩ := hf
        have c6 := fun k n tab => call_take k n tab s a5 o5 e5 h5 [41] (by omega) (by simp)
        simp only [oRS, pTake, List.length_cons, List.length_nil, Nat.reduceAdd] at c5 c6
        subst hR
        rw [start_frameA (by simp)]; simp only [enumA, enumO, List.length_cons, List.length_nil, Nat.reduceAdd, go_sem]
        (repeat (first | (apply axJ; (focus ((with_reducible constructor) <;> rfl))) | ((first | apply awR hΓ | apply awG | apply ovE rfl); (simp (disch := omega) only [go_sem, ↓reduceIte, ↓lk, dk, ↓c1, htp, hob, ↓c2, ↓c3, ↓c4, htq2] <;> with_reducible rfl); exact trivial) | rfl))
        (apply awp_lane3 (nst := false) (nst' := false) [false, false, false, false, false, true] mixedOK hΓ (n1 := 6) (by kernel_rfl) (by kernel_rfl); (focus (dsimp only [List.take_succ_cons, List.take_zero, Array.toList]; (repeat (first | (apply lane3_loud; (focus rfl); (focus rfl); (simp (disch := omega) only [go_sem, ↓reduceIte, dk, ↓c5, look_upd] <;> with_reducible rfl); (focus (first | (simp (disch := omega) only [go_sem, ↓reduceIte, dk, ↓c5, look_upd]; done) | (simp (disch := omega) only [go_sem, ↓reduceIte, dk, ↓c5, look_upd]; omega)))) | (apply lane3_quiet; (simp (disch := omega) only [go_sem, ↓reduceIte, dk, ↓c5, look_upd] <;> with_reducible rfl)))); exact lane3_nil)); (focus ((repeat' (first | exact True.intro | refine And.intro ?_ ?_)); all_goals (first | (left; decide) | (left; rfl) | (right; simp (disch := omega) only [go_sem, ↓reduceIte, dk, ↓c5, look_upd]; try with_reducible rfl)))); (simp (disch := omega) only [go_sem, ↓reduceIte, dk, ↓c5, look_upd] <;> with_reducible rfl))
        (repeat (first | (apply axJ; (focus ((with_reducible constructor) <;> rfl))) | ((first | apply awR hΓ | apply awG | apply ovE rfl); (simp (disch := omega) only [go_sem, ↓reduceIte, ↓lk, dk, ↓c6] <;> with_reducible rfl); exact trivial) | rfl))
        exact retL_x rfl (by simp (disch := omega) only [go_sem, ↓reduceIte, dk] <;> rfl) (Weak.of (by simp) ⟨rfl, trivial⟩ (by simp [TabSub, oRS, enumO, look, Obj.refsOK, refsOKs, AV.refsOK]) rfl)
      | false =>
        have htq2 : (t2 == [41]) = true := by simpa [bne] using htq
        rw [htq] at hR
        simp only [Bool.false_eq_true, if_false] at hR
        have c6 := fun k n tab => call_take k n tab s a4 o4 e4 h4 [41] (by omega) (by simp)
        simp only [oRS, pTake, List.length_cons, List.length_nil, Nat.reduceAdd] at c6
        subst hR
        rw [start_frameA (by simp)]; simp only [enumA, enumO, List.length_cons, List.length_nil, Nat.reduceAdd, go_sem]
        (repeat (first | (apply axJ; (focus ((with_reducible constructor) <;> rfl))) | ((first | apply awR hΓ | apply awG | apply ovE rfl); (simp (disch := omega) only [go_sem, ↓reduceIte, ↓lk, dk, ↓c1, htp, hob, ↓c2, ↓c3, ↓c4, htq2, ↓c6] <;> with_reducible rfl); exact trivial) | rfl))
        exact retL_x rfl (by simp (disch := omega) only [go_sem, ↓reduceIte, dk] <;> rfl) (Weak.of (by simp) ⟨rfl, trivial⟩ (by simp [TabSub, oRS, enumO, look, Obj.refsOK, refsOKs, AV.refsOK]) rfl)
  | false =>
    rw [htp] at hR
    simp only [Bool.false_eq_true, if_false] at hR
    have hor1 : a1 ≤ s.length ∨ e1 ≠ 0 := .inl (by omega)
    have hn1 := name_ok (s := s) (r := ⟨a1, o1, e1, h1⟩) hor1
    have hm1 := skipN_mono s a1
    have c2 := fun k n tab => call_pname k n tab s a1 o1 e1 h1 ⟨hs, by dsimp only; omega, hor1⟩
    generalize pName s ⟨a1, o1, e1, h1⟩ = M at *
    obtain ⟨nm, ⟨a2, o2, e2, h2⟩⟩ := M
    obtain ⟨hn1, hnl⟩ := hn1
    dsimp only at hn1 hnl hR c2
    have hn2 := hn1.le
    have hn3 := hn1.ok
    dsimp only at hn2 hn3
    simp only [oRS] at c2
    have hor2 : a2 ≤ s.length ∨ e2 ≠ 0 := by
      by_cases h : e2 = 0
      · exact .inl (hn3 h).1
      · exact .inr h
    have hp2 := peek_ok (s := s) (r := ⟨a2, o2, e2, h2⟩) hor2
    have c4 := fun k n tab => call_peek k n tab s a2 o2 e2 h2 ⟨by omega, by dsimp only; omega, hor2⟩
    generalize pPeek s ⟨a2, o2, e2, h2⟩ = P2 at *
    obtain ⟨t2, ⟨a3, o3, e3, h3⟩⟩ := P2
    dsimp only at hp2 hR c4
    have hm2 := skipN_mono s a2
    have hat2 := hp2.at1
    have htl2 := hp2.tl
    dsimp only at hat2 htl2
    simp only [oRS] at c4
    cases hpl : (t2 == [43]) with
    | true =>
      rw [hpl] at hR
      simp only [if_true] at hR
      have c5 := fun k n tab => call_take k n tab s a3 o3 e3 h3 [43] (by omega) (by simp)
      simp only [oRS, pTake, List.length_cons, List.length_nil, Nat.reduceAdd] at c5 hR
      subst hR
      rw [start_frameA (by simp)]; simp only [enumA, enumO, List.length_cons, List.length_nil, Nat.reduceAdd, go_sem]
      (repeat (first | (apply axJ; (focus ((with_reducible constructor) <;> rfl))) | ((first | apply awR hΓ | apply awG | apply ovE rfl); (simp (disch := omega) only [go_sem, ↓reduceIte, ↓lk, ↓ty_build33, dk, ↓c1, htp, ↓c2, ↓c4, hpl, ↓c5] <;> with_reducible rfl); exact trivial) | rfl))
      (show RetL _ _ _ (.data (.agg [.int .i64 1, .str nm, .str [], .list []])) _ _ _ _; refine retL_x rfl (x := .agg [.data (.int .i64 1), .data (.str nm), .data (.str []), .nils]) (by simp (disch := omega) only [go_sem, ↓reduceIte, dk] <;> rfl) ?_; exact (Weak.agg1 (l := [.data (.int .i64 1), .data (.str nm), .data (.str []), .nils]) (ds := [.int .i64 1, .str nm, .str [], .list []]) ⟨rfl, rfl, rfl, Or.inr (Or.inl ⟨rfl, rfl⟩), trivial⟩ rfl).trans (Weak.of (by simp) ⟨rfl, trivial⟩ (by simp [TabSub, oRS, enumO, look, Obj.refsOK, refsOKs, AV.refsOK]) rfl))
    | false =>
      rw [hpl] at hR
      simp only [Bool.false_eq_true, if_false] at hR
      cases hwi : (t2 == [119, 105, 116, 104]) with
      | true =>
        rw [hwi] at hR
        simp only [if_true] at hR
        have htt := eq_of_beq hwi
        obtain ⟨he3, hl3⟩ := htl2 (by rw [htt]; simp)
        rw [htt] at hl3
        simp only [List.length_cons, List.length_nil] at hl3
        have c5 := fun k n tab => call_take k n tab s a3 o3 e3 h3 [119, 105, 116, 104] (by omega) (by simp)
        have c6 := fun k n tab => call_pname k n tab s (a3 + 4) o3 e3 h3 ⟨hs, by dsimp only; omega, .inl (by dsimp only; omega)⟩
        simp only [oRS, pTake, List.length_cons, List.length_nil, Nat.reduceAdd] at c5 hR
        generalize pName s ⟨a3 + 4, o3, e3, h3⟩ = X at *
        obtain ⟨ex, ⟨a4, o4, e4, h4⟩⟩ := X
        dsimp only at c6 hR
        simp only [oRS] at c6
        subst hR
        rw [start_frameA (by simp)]; simp only [enumA, enumO, List.length_cons, List.length_nil, Nat.reduceAdd, go_sem]
        (repeat (first | (apply axJ; (focus ((with_reducible constructor) <;> rfl))) | ((first | apply awR hΓ | apply awG | apply ovE rfl); (simp (disch := omega) only [go_sem, ↓reduceIte, ↓lk, ↓ty_build33, dk, ↓c1, htp, ↓c2, ↓c4, hpl, hwi, ↓c5, ↓c6] <;> with_reducible rfl); exact trivial) | rfl))
        (show RetL _ _ _ (.data (.agg [.int .i64 0, .str nm, .str ex, .list []])) _ _ _ _; refine retL_x rfl (x := .agg [.data (.int .i64 0), .data (.str nm), .data (.str ex), .nils]) (by simp (disch := omega) only [go_sem, ↓reduceIte, dk] <;> rfl) ?_; exact (Weak.agg1 (l := [.data (.int .i64 0), .data (.str nm), .data (.str ex), .nils]) (ds := [.int .i64 0, .str nm, .str ex, .list []]) ⟨rfl, rfl, rfl, Or.inr (Or.inl ⟨rfl, rfl⟩), trivial⟩ rfl).trans (Weak.of (by simp) ⟨rfl, trivial⟩ (by simp [TabSub, oRS, enumO, look, Obj.refsOK, refsOKs, AV.refsOK]) rfl))
      | false =>
        rw [hwi] at hR
        simp only [Bool.false_eq_true, if_false] at hR
        subst hR
        rw [start_frameA (by simp)]; simp only [enumA, enumO, List.length_cons, List.length_nil, Nat.reduceAdd, go_sem]
        (repeat (first | (apply axJ; (focus ((with_reducible constructor) <;> rfl))) | ((first | apply awR hΓ | apply awG | apply ovE rfl); (simp (disch := omega) only [go_sem, ↓reduceIte, ↓lk, ↓ty_build33, dk, ↓c1, htp, ↓c2, ↓c4, hpl, hwi] <;> with_reducible rfl); exact trivial) | rfl))
        (show RetL _ _ _ (.data (.agg [.int .i64 0, .str nm, .str [], .list []])) _ _ _ _; refine retL_x rfl (x := .agg [.data (.int .i64 0), .data (.str nm), .data (.str []), .nils]) (by simp (disch := omega) only [go_sem, ↓reduceIte, dk] <;> rfl) ?_; exact (Weak.agg1 (l := [.data (.int .i64 0), .data (.str nm), .data (.str []), .nils]) (ds := [.int .i64 0, .str nm, .str [], .list []]) ⟨rfl, rfl, rfl, Or.inr (Or.inl ⟨rfl, rfl⟩), trivial⟩ rfl).trans (Weak.of (by simp) ⟨rfl, trivial⟩ (by simp [TabSub, oRS, enumO, look, Obj.refsOK, refsOKs, AV.refsOK]) rfl))
theorem f_patom_ok : ∀ d : Nat, d ≤ 24 → LocOK Tryz.prog 89 (g_patom d)
 | 0, _ => f_patom_step 0 (fun _ => none) (fun _ => rfl) (fun _ _ => none) (fun xs os r os' h => by cases h) (fun s f hf => by cases hf) (fun _ _ => rfl)
 | d + 1, h => f_patom_step (d + 1) (fun s => some (pOrsD s d)) (fun _ => rfl) (g_porsA d) (f_porsA_ok d (by omega) (g_pcloA d) (f_pcloA_ok d (f_pands_ok d (by omega) (g_patom d) (f_patom_ok d (by omega)) (fun s _ => atom_out d) (fun k n tab s r hr => call_patom d k n tab s r hr))) (fun s _ => ands_out d) (fun k n tab s r hr => call_pcloA d k n tab s r hr)) (fun s f hf => by
    cases hf
    exact ⟨d, rfl, ors_out d, fun k n tab r hr => (callLoc_of (fp := [0, 1]) rfl rfl rfl (g_porsA_eq d s r hr) (Nat.le_refl _)).trans rfl⟩) (fun s hf => by cases hf)
theorem f_ptop_ok : LocOK Tryz.prog 87 (g_porsP 24) :=
  f_porsP_ok 24 (Nat.le_refl _) (g_pcloP 24) (f_pcloP_ok 24 (f_pands_ok 24 (Nat.le_refl _) (g_patom 24) (f_patom_ok 24 (Nat.le_refl _)) (fun s _ => atom_out 24) (fun k n tab s r hr => call_patom 24 k n tab s r hr))) (fun s _ => ands_out 24) (fun k n tab s r hr => call_pcloP 24 k n tab s r hr)
end Go.Ab
namespace Go.Ab
open Go Go.RowKit Go.Proofs
set_option maxRecDepth 10000
set_option maxHeartbeats 8000000
theorem wordN_cons {s : List UInt8} {b : Nat} {x : UInt8} {w : List UInt8} (h : wordN s b = x :: w) : s[b]? = some x ∧ letter x = true := by
  unfold wordN at h
  cases hd : s.drop b with
  | nil => rw [hd] at h; simp at h
  | cons y r =>
    rw [hd, List.takeWhile_cons] at h
    split at h
    · rename_i hy
      simp only [List.cons.injEq] at h
      obtain ⟨rfl, _⟩ := h
      have : (s.drop b)[0]? = some y := by rw [hd]; rfl
      rw [List.getElem?_drop] at this
      exact ⟨by simpa using this, hy⟩
    · cases h
theorem wordN_nil {s : List UInt8} {b : Nat} {x : UInt8} (h : wordN s b = []) (hx : s[b]? = some x) : letter x = false := by
  unfold wordN at h
  have h1 : (s.drop b)[0]? = some x := by rw [List.getElem?_drop]; simpa using hx
  cases hd : s.drop b with
  | nil => rw [hd] at h1; simp at h1
  | cons y r =>
    rw [hd] at h h1
    simp only [List.getElem?_cons_zero, Option.some.injEq] at h1
    subst h1
    rw [List.takeWhile_cons] at h
    split at h
    · cases h
    · rename_i hy; simpa using hy
theorem tok_word {s : List UInt8} {b : Nat} {x : UInt8} {w : List UInt8} (hx : letter x = true) : tokAt s b = x :: w ↔ wordN s b = x :: w := by
  unfold tokAt
  split
  · rename_i h
    have h := eq_of_beq h
    rw [h]
    constructor
    · intro h2
      exfalso
      split at h2
      · rename_i c hc
        have hl := wordN_nil h hc
        split at h2
        · simp only [List.cons.injEq] at h2
          rw [h2.1, hx] at hl
          cases hl
        · cases h2
      · cases h2
    · intro h2; cases h2
  · exact Iff.rfl
theorem isAtI_iff {s : List UInt8} {b : Nat} {c : UInt8} : isAtI s b c.toNat = true ↔ s[b]? = some c := by
  unfold isAtI
  cases h : s[b]? with
  | none => simp
  | some x =>
    simp only [beq_iff_eq, Option.some.injEq, Int.natCast_inj]
    exact UInt8.toNat_inj
theorem tok_punct {s : List UInt8} {b : Nat} {c : UInt8} (hc : c = 43 ∨ c = 40 ∨ c = 41) : tokAt s b = [c] ↔ isAtI s b c.toNat = true := by
  rw [isAtI_iff]
  have hlc : letter c = false := by rcases hc with rfl | rfl | rfl <;> decide
  unfold tokAt
  split
  · rename_i h
    have h := eq_of_beq h
    cases hs : s[b]? with
    | none => simp
    | some x =>
      simp only [Option.some.injEq]
      constructor
      · intro h2
        split at h2
        · simpa using h2
        · cases h2
      · rintro rfl
        rw [if_pos (by rcases hc with rfl | rfl | rfl <;> decide)]
  · rename_i h
    constructor
    · intro h2
      have := (wordN_cons h2).2
      rw [hlc] at this
      cases this
    · intro h2
      exfalso
      cases hw : wordN s b with
      | nil => rw [hw] at h; exact h rfl
      | cons y w =>
        obtain ⟨h3, h4⟩ := wordN_cons hw
        rw [h2] at h3
        simp only [Option.some.injEq] at h3
        rw [← h3, hlc] at h4
        cases h4
def Bad (s : List UInt8) (b : Nat) : Prop := b < s.length ∧ tokAt s b = []
theorem tok_end {s : List UInt8} {b : Nat} (h : s.length ≤ b) : tokAt s b = [] := by
  unfold tokAt wordN
  rw [List.drop_eq_nil_of_le h, List.getElem?_eq_none h]
  rfl
theorem peek_eq {s : List UInt8} {r : RS} (he : r.e = 0) (hle : r.at' ≤ s.length) :
    (pPeek s r).1 = tokAt s (skipN s r.at') ∧ (pPeek s r).2.at' = skipN s r.at' ∧ (pPeek s r).2.op = r.op ∧
      (Bad s (skipN s r.at') → (pPeek s r).2.e = 4 ∧ (pPeek s r).2.here = skipN s r.at') ∧ (¬ Bad s (skipN s r.at') → (pPeek s r).2.e = 0) := by
  have hm : skipN s r.at' ≤ s.length := (runN_le hle).2
  unfold pPeek Bad
  by_cases hb : skipN s r.at' = s.length
  · have h1 : ((skipN s r.at' == s.length) || (r.e != 0)) = true := by rw [hb]; simp
    rw [if_pos h1]
    exact ⟨(tok_end (by omega)).symm, rfl, rfl, fun h => absurd h.1 (by omega), fun _ => he⟩
  · have h1 : ¬ ((skipN s r.at' == s.length) || (r.e != 0)) = true := by simp [hb, he]
    rw [if_neg h1]
    split
    · rename_i h
      have h := eq_of_beq h
      exact ⟨h.symm, rfl, rfl, fun _ => ⟨rfl, rfl⟩, fun h2 => absurd ⟨by omega, h⟩ h2⟩
    · rename_i h
      exact ⟨rfl, rfl, rfl, fun h2 => absurd (by rw [h2.2]; rfl) h, fun _ => he⟩
theorem peek_err {s : List UInt8} {r : RS} (he : r.e ≠ 0) : (pPeek s r).1 = [] ∧ (pPeek s r).2.e = r.e ∧ (pPeek s r).2.here = r.here := by
  have := (peek_ok (s := s) (r := r) (.inr he)).er he
  exact this
theorem fail_err {r : RS} (he : r.e ≠ 0) (e a : Int) : pFail r e a = r := by
  unfold pFail
  rw [if_neg (by simpa using he)]
theorem fail_new {r : RS} (he : r.e = 0) (e a : Int) : (pFail r e a).e = e ∧ (pFail r e a).here = a := by
  unfold pFail
  rw [if_pos (by simpa using he)]
  exact ⟨rfl, rfl⟩
theorem name_err {s : List UInt8} {r : RS} (he : r.e ≠ 0) : (pName s r).2.e = r.e ∧ (pName s r).2.here = r.here := by
  have hp := peek_err (s := s) he
  unfold pName
  rw [if_pos (by rw [hp.1]; rfl), fail_err (by rw [hp.2.1]; exact he)]
  exact hp.2
theorem rName_nil {s : List UInt8} {a : Nat} (h : wordN s (skipN s a) = []) : rName s a = wrongR (skipN s a) 4 := by unfold rName; rw [h]; rfl
theorem rName_bad {s w : List UInt8} {a : Nat} (h : wordN s (skipN s a) = w) (hw : w ≠ []) (hn : isNameB w = false) : rName s a = wrongR (skipN s a) 2 := by
  unfold rName
  rw [h, if_neg (by simpa using hw), if_pos (by rw [hn]; rfl)]
theorem rName_ok {s w : List UInt8} {a : Nat} (h : wordN s (skipN s a) = w) (hw : w ≠ []) (hn : isNameB w = true) : rName s a = ⟨.mk 0 w [] [], skipN s a + w.length, 0⟩ := by
  unfold rName
  rw [h, if_neg (by simpa using hw), if_neg (by rw [hn]; simp)]
theorem pName_nil {s : List UInt8} {r : RS} (h : (((pPeek s r).1 == []) || ((pPeek s r).1 == [43]) || ((pPeek s r).1 == [40]) || ((pPeek s r).1 == [41])) = true) : pName s r = ([], pFail (pPeek s r).2 4 (pPeek s r).2.at') := by
  unfold pName
  rw [if_pos h]
theorem pName_bad {s : List UInt8} {r : RS} (h : (((pPeek s r).1 == []) || ((pPeek s r).1 == [43]) || ((pPeek s r).1 == [40]) || ((pPeek s r).1 == [41])) = false) (hn : isNameB (pPeek s r).1 = false) : pName s r = ([], pFail (pPeek s r).2 2 (pPeek s r).2.at') := by
  unfold pName
  rw [if_neg (by rw [h]; simp), if_pos (by rw [hn]; rfl)]
theorem pName_ok {s : List UInt8} {r : RS} (h : (((pPeek s r).1 == []) || ((pPeek s r).1 == [43]) || ((pPeek s r).1 == [40]) || ((pPeek s r).1 == [41])) = false) (hn : isNameB (pPeek s r).1 = true) : pName s r = ((pPeek s r).1, pTake (pPeek s r).2 (pPeek s r).1.length) := by
  unfold pName
  rw [if_neg (by rw [h]; simp), if_neg (by rw [hn]; simp)]
theorem name_rel {s : List UInt8} {r : RS} (he : r.e = 0) (hle : r.at' ≤ s.length) :
    ((rName s r.at').err ≠ 0 → (pName s r).2.e = (rName s r.at').err ∧ (pName s r).2.here = (rName s r.at').at') ∧
    ((rName s r.at').err = 0 → (pName s r).2.e = 0 ∧ (rName s r.at').expr = .mk 0 (pName s r).1 [] [] ∧ (pName s r).2.at' = (rName s r.at').at') := by
  obtain ⟨h1, h2, h3, h4, h5⟩ := peek_eq he hle
  cases hw : wordN s (skipN s r.at') with
  | nil =>
    have hc : ((tokAt s (skipN s r.at') == []) || (tokAt s (skipN s r.at') == [43]) || (tokAt s (skipN s r.at') == [40]) || (tokAt s (skipN s r.at') == [41])) = true := by
      unfold tokAt
      rw [hw]
      cases hs : s[skipN s r.at']? with
      | none => rfl
      | some c =>
        simp only [beq_self_eq_true, if_true]
        cases hcc : (c == 43 || (c == 40 || c == 41)) with
        | false => rfl
        | true =>
          simp only [if_true]
          simp only [Bool.or_eq_true, beq_iff_eq] at hcc
          rcases hcc with rfl | rfl | rfl <;> rfl
    rw [rName_nil hw, pName_nil (by rw [h1]; exact hc)]
    refine ⟨fun _ => ?_, fun h => absurd (show (4 : Int) = 0 from h) (by decide)⟩
    by_cases hb : Bad s (skipN s r.at')
    · obtain ⟨h6, h7⟩ := h4 hb
      rw [fail_err (by rw [h6]; decide)]
      exact ⟨h6, h7⟩
    · have h6 := fail_new (h5 hb) 4 (pPeek s r).2.at'
      exact ⟨h6.1, by rw [h6.2, h2]; rfl⟩
  | cons x w =>
    obtain ⟨hx, hl⟩ := wordN_cons hw
    have ht := (tok_word hl).2 hw
    have hne : ∀ c : UInt8, letter c = false → ((x :: w) == [c]) = false := fun c hc => by
      rw [beq_eq_false_iff_ne]
      intro h
      simp only [List.cons.injEq] at h
      rw [h.1, hc] at hl
      cases hl
    have hc : (((pPeek s r).1 == []) || ((pPeek s r).1 == [43]) || ((pPeek s r).1 == [40]) || ((pPeek s r).1 == [41])) = false := by
      rw [h1, ht, hne 43 (by decide), hne 40 (by decide), hne 41 (by decide)]
      rfl
    have hnb : ¬ Bad s (skipN s r.at') := fun h => by
      have := h.2
      rw [ht] at this
      cases this
    have he2 := h5 hnb
    cases hn : isNameB (x :: w) with
    | false =>
      rw [rName_bad hw (by simp) hn, pName_bad hc (by rw [h1, ht]; exact hn)]
      refine ⟨fun _ => ?_, fun h => absurd (show (2 : Int) = 0 from h) (by decide)⟩
      have h6 := fail_new he2 2 (pPeek s r).2.at'
      exact ⟨h6.1, by rw [h6.2, h2]; rfl⟩
    | true =>
      rw [rName_ok hw (by simp) hn, pName_ok hc (by rw [h1, ht]; exact hn), h1, ht]
      exact ⟨fun h => absurd rfl h, fun _ => ⟨he2, rfl, by show (pPeek s r).2.at' + _ = _; rw [h2]⟩⟩
def Rel (s : List UInt8) (d : Nat) (rp : Nat → Res) (pp : RS → LX × RS) : Prop := ∀ r, PIn s d r →
  ((rp r.at').err ≠ 0 → (pp r).2.e = (rp r.at').err ∧ (pp r).2.here = (rp r.at').at') ∧
  ((rp r.at').err = 0 → ((pp r).2.e = 0 ∧ (pp r).1 = (rp r.at').expr ∧ skipN s (pp r).2.at' = skipN s (rp r.at').at') ∨ (Bad s (skipN s (rp r.at').at') ∧ (pp r).2.e = 4 ∧ (pp r).2.here = skipN s (rp r.at').at'))
def RelL (s : List UInt8) (d : Nat) (rp : Nat → Res) (pp : RS → LX × RS) : Prop := ∀ r, PIn s d r →
  ((rp r.at').err ≠ 0 → (pp r).2.e = (rp r.at').err ∧ (pp r).2.here = (rp r.at').at') ∧
  ((rp r.at').err = 0 → skipN s (rp r.at').at' = (rp r.at').at' ∧ (¬ Bad s (rp r.at').at' → (pp r).2.e = 0 ∧ (pp r).1 = (rp r.at').expr ∧ (pp r).2.at' = (rp r.at').at') ∧ (Bad s (rp r.at').at' → (pp r).2.e = 4 ∧ (pp r).2.here = (rp r.at').at'))
theorem RelL.rel {s : List UInt8} {d : Nat} {rp : Nat → Res} {pp : RS → LX × RS} (h : RelL s d rp pp) : Rel s d rp pp := fun r hr => by
  obtain ⟨h1, h2⟩ := h r hr
  refine ⟨h1, fun he => ?_⟩
  obtain ⟨h3, h4, h5⟩ := h2 he
  rw [h3]
  by_cases hb : Bad s (rp r.at').at'
  · exact .inr ⟨hb, h5 hb⟩
  · obtain ⟨h6, h7, h8⟩ := h4 hb
    exact .inl ⟨h6, h7, by rw [h8, h3]⟩
theorem loop_rel {s : List UInt8} {d : Nat} {rp : Nat → Res} {pp : RS → LX × RS} {kind : Int} {x : UInt8} {w : List UInt8} (hx : letter x = true) (hs : s.length ≤ 1024) (hd : d ≤ 24) (hg : ∀ a, a ≤ s.length → GoodR s a (rp a)) (hp : PartOK s d pp) (hrel : Rel s d rp pp) :
    ∀ (n m : Nat) (a : Nat) (acc : List LX) (r : RS), r.at' = a → PIn s d r → s.length < n + a → s.length < m + a →
      let R := rLoop rp s kind (x :: w) n a acc
      let q := pLoop pp s kind (x :: w) m (acc ++ [(pp r).1]) (pp r).2
      (R.err ≠ 0 → q.2.e = R.err ∧ q.2.here = R.at') ∧ (R.err = 0 → skipN s R.at' = R.at' ∧ (¬ Bad s R.at' → q.2.e = 0 ∧ q.1 = R.expr ∧ q.2.at' = R.at') ∧ (Bad s R.at' → q.2.e = 4 ∧ q.2.here = R.at')) := by
  intro n
  induction n with
  | zero => intro m a acc r ha hr hn hm; have := hr.le; omega
  | succ n ih =>
    intro m a acc r ha hr hn hm
    subst ha
    obtain ⟨m, rfl⟩ : ∃ m', m = m' + 1 := ⟨m - 1, by have := hr.le; omega⟩
    have hgr := hg r.at' hr.le
    have ho := hp r hr
    obtain ⟨h1, h2⟩ := hrel r hr
    intro R q
    have hR : R = rLoop rp s kind (x :: w) (n + 1) r.at' acc := rfl
    have hq : q = pLoop pp s kind (x :: w) (m + 1) (acc ++ [(pp r).1]) (pp r).2 := rfl
    rw [rLoop] at hR
    rw [pLoop] at hq
    have hfin : ∀ r2, (pFin kind (acc ++ [(pp r).1]) r2).2 = r2 ∧ (pFin kind (acc ++ [(pp r).1]) r2).1 = (if acc.length == 0 then (pp r).1 else .mk kind [] [] (acc ++ [(pp r).1])) := by
      intro r2
      unfold pFin
      cases acc with
      | nil => exact ⟨rfl, rfl⟩
      | cons y l =>
        have : ((y :: l ++ [(pp r).1]).length == 1) = false := by rw [beq_eq_false_iff_ne]; simp
        rw [this]
        exact ⟨rfl, rfl⟩
    by_cases he : (rp r.at').err = 0
    case neg =>
      rw [if_pos (by simpa using he)] at hR
      obtain ⟨h3, h4⟩ := h1 he
      rw [if_neg (by rw [h3]; simpa using he)] at hq
      rw [hR, hq]
      exact ⟨fun _ => by rw [(hfin _).1]; exact ⟨h3, h4⟩, fun h => absurd h he⟩
    rw [if_neg (by simp [he])] at hR
    have hb := (runN_le (p := isBl) hgr.le)
    have hidem := skipN_idem s (rp r.at').at'
    have hlt := hgr.lt he
    rcases h2 he with ⟨h3, h4, h5⟩ | ⟨h3, h4, h5⟩
    · rw [if_pos (by simpa using h3)] at hq
      obtain ⟨p1, p2, p3, p4, p5⟩ := peek_eq h3 (ho.ok h3)
      rw [h5] at p1 p2 p4 p5
      by_cases hw : wordN s (skipN s (rp r.at').at') = x :: w
      · rw [if_pos (by rw [hw]; exact beq_self_eq_true _)] at hR
        have ht := (tok_word hx).2 hw
        rw [if_pos (by rw [p1, ht]; exact beq_self_eq_true _)] at hq
        have hnb : ¬ Bad s (skipN s (rp r.at').at') := fun h => by
          have := h.2
          rw [ht] at this
          cases this
        have hlen := wordN_le s _ hb.2
        rw [show runN isBl s (rp r.at').at' = skipN s (rp r.at').at' from rfl, hw] at hlen
        have hin : PIn s d (pTake (pPeek s (pp r).2).2 (x :: w).length) := ⟨hs, by show (pPeek s (pp r).2).2.at' + _ ≤ _; rw [p2]; exact hlen, p5 hnb, hd, by show (pPeek s (pp r).2).2.op = _; rw [p3, ho.op, hr.op]⟩
        have hat : (pTake (pPeek s (pp r).2).2 (x :: w).length).at' = skipN s (rp r.at').at' + (x :: w).length := by show (pPeek s (pp r).2).2.at' + _ = _; rw [p2]
        have hl1 : 1 ≤ (x :: w).length := by simp
        have hbb : (rp r.at').at' ≤ skipN s (rp r.at').at' := hb.1
        have := ih m (skipN s (rp r.at').at' + (x :: w).length) (acc ++ [(rp r.at').expr]) _ hat hin (by omega) (by omega)
        rw [← h4] at this hR
        rw [hR, hq]
        exact this
      · rw [if_neg (by simpa using hw)] at hR
        rw [if_neg (by rw [p1]; intro h; exact hw ((tok_word hx).1 (eq_of_beq h)))] at hq
        have hRe : R = ⟨if acc.length == 0 then (rp r.at').expr else .mk kind [] [] (acc ++ [(rp r.at').expr]), skipN s (rp r.at').at', 0⟩ := by
          rw [hR]; split <;> rfl
        rw [hRe, hq]
        refine ⟨fun h => absurd rfl h, fun _ => ⟨hidem, fun hnb => ?_, fun hbd => ?_⟩⟩
        · rw [(hfin _).1, (hfin _).2, h4]
          exact ⟨p5 hnb, rfl, p2⟩
        · rw [(hfin _).1]
          exact p4 hbd
    · rw [if_neg (by rw [h4]; decide)] at hq
      have hw : wordN s (skipN s (rp r.at').at') ≠ x :: w := fun h => by
        have := (tok_word hx).2 h
        rw [h3.2] at this
        cases this
      rw [if_neg (by simpa using hw)] at hR
      have hRe : R = ⟨if acc.length == 0 then (rp r.at').expr else .mk kind [] [] (acc ++ [(rp r.at').expr]), skipN s (rp r.at').at', 0⟩ := by
        rw [hR]; split <;> rfl
      rw [hRe, hq]
      refine ⟨fun h => absurd rfl h, fun _ => ⟨hidem, fun hnb => absurd h3 hnb, fun hbd => ?_⟩⟩
      rw [(hfin _).1]
      exact ⟨h4, h5⟩
end Go.Ab
