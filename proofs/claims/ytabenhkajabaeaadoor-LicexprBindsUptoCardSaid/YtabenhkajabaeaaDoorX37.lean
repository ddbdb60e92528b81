/-
  One text of the proof (own work): contracts of functions of the program, by the abstract machine.
-/
import Derived.Test.YtabenhkajabaeaaDoorX23
import Derived.Test.YtabenhkajabaeaaDoorX36
set_option linter.unusedVariables false
set_option linter.unusedSimpArgs false
namespace Go.Ab
open Go Go.RowKit Go.Proofs
set_option maxRecDepth 10000
set_option maxHeartbeats 8000000
noncomputable def g_patom (d : Nat) := locSpec (fun _ : List UInt8 × RS => [.ptr 0 0]) (fun x => [oRS x.1 x.2]) (fun x => PIn x.1 d x.2) (fun x => (.data (eX (pAtomD x.1 d x.2).1), [oRS x.1 (pAtomD x.1 d x.2).2]))
theorem g_patom_eq (d : Nat) (s : List UInt8) (r : RS) (hd : PIn s d r) : g_patom d [.ptr 0 0] [oRS s r] = some (.data (eX (pAtomD s d r).1), [oRS s (pAtomD s d r).2]) := locSpec_eq (x := (s, r)) hd fun y _ h2 => by
  obtain ⟨y1, y2⟩ := y
  simp only [List.cons.injEq, and_true] at h2
  obtain ⟨rfl, rfl⟩ := oRS_inj h2
  rfl
theorem call_patom (d k n : Nat) (tab : List (Nat × Obj)) (s : List UInt8) (r : RS) (hd : PIn s d r) : callLoc k ⟨(0, oRS s r) :: tab, n⟩ (g_patom d) [.ptr 0 0] = some (.data (eX (pAtomD s d r).1), ⟨(0, oRS s (pAtomD s d r).2) :: tab, k⟩) :=
  (callLoc_of (fp := [0]) rfl rfl rfl (g_patom_eq d s r hd) (Nat.le_refl _)).trans rfl
theorem f_patom_step (d : Nat) (inner : List UInt8 → Option (RS → LX × RS)) (hin : ∀ s, pAtomD s d = pAtomF s (inner s)) (gi : List AV → List Obj → Option (AV × List Obj)) (hgi : LocOK Tryd.prog 28 gi)
    (h0 : ∀ s f, inner s = some f → ∃ d', d = d' + 1 ∧ PartOK s d' f ∧ ∀ k n tab r, PIn s d' r → callLoc k ⟨(0, oRS s r) :: (1, .box [.ptr 0 0]) :: tab, n⟩ gi [.ptr 0 0, .data (.int .i64 3), .data (.str [111, 114]), .fn 52 [.ptr 1 0]] = some (.data (eX (f r).1), ⟨(0, oRS s (f r).2) :: (1, .box [.ptr 0 0]) :: tab, k⟩))
    (hn : ∀ s, inner s = none → d = 0) : LocOK Tryd.prog 30 (g_patom d) := by
  have hΓ := (Γq hgi (Γq f_peek_ok (Γq f_fail_ok (Γq f_take_ok (Γq f_pname_ok (Γn))))))
  refine loc_enc (n := 71) (rs := [.cell 2 25]) Tryd.func30 (by kernel_rfl) rfl (by kernel_rfl) (by kernel_rfl) ?_
  rintro ⟨s, ⟨a, o, e, h⟩⟩ hI k hz0
  dsimp only [oRS] at hz0 ⊢
  simp only [List.length_cons, List.length_nil] at hz0
  dsimp only at hI
  obtain ⟨hs, ha, he, hd24, ho⟩ := hI
  dsimp only at ha he ho
  subst he
  have hp := peek_ok (s := s) (r := ⟨a, o, 0, h⟩) (.inl ha)
  have c1 := fun k n tab => call_peek k n tab s a o 0 h ⟨by omega, by dsimp only; omega, .inl ha⟩
  have hnn := hn s
  have h00 := h0 s
  rw [hin s]
  generalize inner s = inn at *
  generalize hR : pAtomF s inn ⟨a, o, 0, h⟩ = R
  unfold pAtomF at hR
  generalize pPeek s ⟨a, o, 0, h⟩ = P at *
  obtain ⟨t, ⟨a1, o1, e1, h1⟩⟩ := P
  dsimp only at hp hR c1
  have hm := skipN_mono s a
  have hat := hp.at1
  have hop := hp.op1
  have htl := hp.tl
  dsimp only at hat hop htl
  simp only [oRS] at c1
  cases htp : (t == [40]) with
  | true =>
    rw [htp] at hR
    simp only [if_true] at hR
    have htt := eq_of_beq htp
    obtain ⟨he1, hl1⟩ := htl (by rw [htt]; simp)
    rw [htt] at hl1
    simp only [List.length_cons, List.length_nil] at hl1
    subst he1
    cases inn with
    | none =>
      have hd0 := hnn rfl
      subst hd0
      have hob : (o1 == 24) = true := by rw [hop, ho]; rfl
      have c2 := fun k n tab => call_fail k n tab s a1 o1 0 h1 11 a1
      simp only [oRS] at c2
      simp only at hR
      generalize hF : pFail ⟨a1, o1, 0, h1⟩ 11 a1 = F at *
      obtain ⟨a2, o2, e2, h2⟩ := F
      dsimp only at c2
      subst hR
      rw [start_frameA (by simp)]; simp only [enumA, enumO, List.length_cons, List.length_nil, Nat.reduceAdd, go_sem]
      (repeat (first | (apply axJ; (focus ((with_reducible constructor) <;> rfl))) | ((first | apply awR hΓ | apply awG | apply ovE rfl); (simp (disch := omega) only [go_sem, ↓reduceIte, ↓lk, dk, ↓c1, htp, hob] <;> with_reducible rfl); exact trivial) | rfl))
      (apply awp_lane3 (nst := false) (nst' := false) [false, false, false, false, false, true] mixedOK hΓ (n1 := 6) (by kernel_rfl) (by kernel_rfl); (focus (dsimp only [List.take_succ_cons, List.take_zero, Array.toList]; (repeat (first | (apply lane3_loud; (focus rfl); (focus rfl); (simp (disch := omega) only [go_sem, ↓reduceIte, dk, ↓c2, look_upd] <;> with_reducible rfl); (focus (first | (simp (disch := omega) only [go_sem, ↓reduceIte, dk, ↓c2, look_upd]; done) | (simp (disch := omega) only [go_sem, ↓reduceIte, dk, ↓c2, look_upd]; omega)))) | (apply lane3_quiet; (simp (disch := omega) only [go_sem, ↓reduceIte, dk, ↓c2, look_upd] <;> with_reducible rfl)))); exact lane3_nil)); (focus ((repeat' (first | exact True.intro | refine And.intro ?_ ?_)); all_goals (first | (left; decide) | (left; rfl) | (right; simp (disch := omega) only [go_sem, ↓reduceIte, dk, ↓c2, look_upd]; try with_reducible rfl)))); (simp (disch := omega) only [go_sem, ↓reduceIte, dk, ↓c2, look_upd] <;> with_reducible rfl))
      (repeat (first | (apply axJ; (focus ((with_reducible constructor) <;> rfl))) | ((first | apply awR hΓ | apply awG | apply ovE rfl); (simp (disch := omega) only [go_sem, ↓reduceIte, ↓lk, ↓ty_build25, dk] <;> with_reducible rfl); exact trivial) | rfl))
      (show RetL _ _ _ (.data (.agg [.int .i64 0, .str [], .str [], .list []])) _ _ _ _; refine retL_x rfl (x := .agg [.data (.int .i64 0), .data (.str []), .data (.str []), .nils]) (by simp (disch := omega) only [go_sem, ↓reduceIte, dk] <;> rfl) ?_; exact (Weak.agg1 (l := [.data (.int .i64 0), .data (.str []), .data (.str []), .nils]) (ds := [.int .i64 0, .str [], .str [], .list []]) ⟨rfl, rfl, rfl, Or.inr (Or.inl ⟨rfl, rfl⟩), trivial⟩ rfl).trans (Weak.of (by simp) ⟨rfl, trivial⟩ (by simp [TabSub, oRS, enumO, look, Obj.refsOK, refsOKs, AV.refsOK]) rfl))
    | some f =>
      obtain ⟨d', rfl, hpf, hcf⟩ := h00 f rfl
      have hob : (o1 == 24) = false := by rw [hop, ho, beq_eq_false_iff_ne]; omega
      have c2 := fun k n tab => call_take k n tab s a1 o1 0 h1 [40] (by omega) (by simp)
      have hin2 : PIn s d' ⟨a1 + 1, o1 + 1, 0, h1⟩ := ⟨hs, hl1, rfl, by omega, by dsimp only; rw [hop, ho]; omega⟩
      have c3 := fun k n tab => hcf k n tab _ hin2
      have hq := hpf _ hin2
      simp only [oRS, pTake, List.length_cons, List.length_nil, Nat.reduceAdd] at c2 c3
      simp only [pTake] at hR
      obtain ⟨⟨x, ⟨a3, o3, e3, h3⟩⟩, hQ⟩ : ∃ Q, f ⟨a1 + 1, o1 + 1, 0, h1⟩ = Q := ⟨_, rfl⟩
      simp only [hQ] at hq hR c3
      have hq1 := hq.mono
      have hq2 := hq.le
      have hq3 := hq.ok
      have hq4 := hq.op
      dsimp only at hq1 hq2 hq3 hq4
      have hor : a3 ≤ s.length ∨ e3 ≠ 0 := by
        by_cases h : e3 = 0
        · exact .inl (hq3 h)
        · exact .inr h
      have hp2 := peek_ok (s := s) (r := ⟨a3, o3, e3, h3⟩) hor
      have c4 := fun k n tab => call_peek k n tab s a3 o3 e3 h3 ⟨by omega, by dsimp only; omega, hor⟩
      generalize pPeek s ⟨a3, o3, e3, h3⟩ = P2 at *
      obtain ⟨t2, ⟨a4, o4, e4, h4⟩⟩ := P2
      dsimp only at hp2 hR c4
      have hm2 := skipN_mono s a3
      have hat2 := hp2.at1
      have hop2 := hp2.op1
      dsimp only at hat2 hop2
      simp only [oRS] at c4
      have hrange : -9223372036854775808 ≤ o4 - 1 ∧ o4 - 1 < 9223372036854775808 := by omega
      have hrange2 : -9223372036854775808 ≤ o1 + 1 ∧ o1 + 1 < 9223372036854775808 := by omega
      cases htq : (t2 != [41]) with
      | true =>
        have htq2 : (t2 == [41]) = false := by simpa [bne] using htq
        rw [htq] at hR
        simp only [if_true] at hR
        have c5 := fun k n tab => call_fail k n tab s a4 o4 e4 h4 4 a4
        have hf := fail_at ⟨a4, o4, e4, h4⟩ 4 a4
        generalize pFail ⟨a4, o4, e4, h4⟩ 4 a4 = F at *
        obtain ⟨a5, o5, e5, h5⟩ := F
        dsimp only at c5 hf hR
        obtain ⟨rfl, rfl, _⟩ := hf
        have c6 := fun k n tab => call_take k n tab s a5 o5 e5 h5 [41] (by omega) (by simp)
        simp only [oRS, pTake, List.length_cons, List.length_nil, Nat.reduceAdd] at c5 c6
        subst hR
        rw [start_frameA (by simp)]; simp only [enumA, enumO, List.length_cons, List.length_nil, Nat.reduceAdd, go_sem]
        (repeat (first | (apply axJ; (focus ((with_reducible constructor) <;> rfl))) | ((first | apply awR hΓ | apply awG | apply ovE rfl); (simp (disch := omega) only [go_sem, ↓reduceIte, ↓lk, dk, ↓c1, htp, hob, ↓c2, ↓c3, ↓c4, htq2] <;> with_reducible rfl); exact trivial) | rfl))
        (apply awp_lane3 (nst := false) (nst' := false) [false, false, false, false, false, true] mixedOK hΓ (n1 := 6) (by kernel_rfl) (by kernel_rfl); (focus (dsimp only [List.take_succ_cons, List.take_zero, Array.toList]; (repeat (first | (apply lane3_loud; (focus rfl); (focus rfl); (simp (disch := omega) only [go_sem, ↓reduceIte, dk, ↓c5, look_upd] <;> with_reducible rfl); (focus (first | (simp (disch := omega) only [go_sem, ↓reduceIte, dk, ↓c5, look_upd]; done) | (simp (disch := omega) only [go_sem, ↓reduceIte, dk, ↓c5, look_upd]; omega)))) | (apply lane3_quiet; (simp (disch := omega) only [go_sem, ↓reduceIte, dk, ↓c5, look_upd] <;> with_reducible rfl)))); exact lane3_nil)); (focus ((repeat' (first | exact True.intro | refine And.intro ?_ ?_)); all_goals (first | (left; decide) | (left; rfl) | (right; simp (disch := omega) only [go_sem, ↓reduceIte, dk, ↓c5, look_upd]; try with_reducible rfl)))); (simp (disch := omega) only [go_sem, ↓reduceIte, dk, ↓c5, look_upd] <;> with_reducible rfl))
        (repeat (first | (apply axJ; (focus ((with_reducible constructor) <;> rfl))) | ((first | apply awR hΓ | apply awG | apply ovE rfl); (simp (disch := omega) only [go_sem, ↓reduceIte, ↓lk, dk, ↓c6] <;> with_reducible rfl); exact trivial) | rfl))
        exact retL_x rfl (by simp (disch := omega) only [go_sem, ↓reduceIte, dk] <;> rfl) (Weak.of (by simp) ⟨rfl, trivial⟩ (by simp [TabSub, oRS, enumO, look, Obj.refsOK, refsOKs, AV.refsOK]) rfl)
      | false =>
        have htq2 : (t2 == [41]) = true := by simpa [bne] using htq
        rw [htq] at hR
        simp only [Bool.false_eq_true, if_false] at hR
        have c6 := fun k n tab => call_take k n tab s a4 o4 e4 h4 [41] (by omega) (by simp)
        simp only [oRS, pTake, List.length_cons, List.length_nil, Nat.reduceAdd] at c6
        subst hR
        rw [start_frameA (by simp)]; simp only [enumA, enumO, List.length_cons, List.length_nil, Nat.reduceAdd, go_sem]
        (repeat (first | (apply axJ; (focus ((with_reducible constructor) <;> rfl))) | ((first | apply awR hΓ | apply awG | apply ovE rfl); (simp (disch := omega) only [go_sem, ↓reduceIte, ↓lk, dk, ↓c1, htp, hob, ↓c2, ↓c3, ↓c4, htq2, ↓c6] <;> with_reducible rfl); exact trivial) | rfl))
        exact retL_x rfl (by simp (disch := omega) only [go_sem, ↓reduceIte, dk] <;> rfl) (Weak.of (by simp) ⟨rfl, trivial⟩ (by simp [TabSub, oRS, enumO, look, Obj.refsOK, refsOKs, AV.refsOK]) rfl)
  | false =>
    rw [htp] at hR
    simp only [Bool.false_eq_true, if_false] at hR
    have hor1 : a1 ≤ s.length ∨ e1 ≠ 0 := .inl (by omega)
    have hn1 := name_ok (s := s) (r := ⟨a1, o1, e1, h1⟩) hor1
    have hm1 := skipN_mono s a1
    have c2 := fun k n tab => call_pname k n tab s a1 o1 e1 h1 ⟨hs, by dsimp only; omega, hor1⟩
    generalize pName s ⟨a1, o1, e1, h1⟩ = M at *
    obtain ⟨nm, ⟨a2, o2, e2, h2⟩⟩ := M
    obtain ⟨hn1, hnl⟩ := hn1
    dsimp only at hn1 hnl hR c2
    have hn2 := hn1.le
    have hn3 := hn1.ok
    dsimp only at hn2 hn3
    simp only [oRS] at c2
    have hor2 : a2 ≤ s.length ∨ e2 ≠ 0 := by
      by_cases h : e2 = 0
      · exact .inl (hn3 h).1
      · exact .inr h
    have hp2 := peek_ok (s := s) (r := ⟨a2, o2, e2, h2⟩) hor2
    have c4 := fun k n tab => call_peek k n tab s a2 o2 e2 h2 ⟨by omega, by dsimp only; omega, hor2⟩
    generalize pPeek s ⟨a2, o2, e2, h2⟩ = P2 at *
    obtain ⟨t2, ⟨a3, o3, e3, h3⟩⟩ := P2
    dsimp only at hp2 hR c4
    have hm2 := skipN_mono s a2
    have hat2 := hp2.at1
    have htl2 := hp2.tl
    dsimp only at hat2 htl2
    simp only [oRS] at c4
    cases hpl : (t2 == [43]) with
    | true =>
      rw [hpl] at hR
      simp only [if_true] at hR
      have c5 := fun k n tab => call_take k n tab s a3 o3 e3 h3 [43] (by omega) (by simp)
      simp only [oRS, pTake, List.length_cons, List.length_nil, Nat.reduceAdd] at c5 hR
      subst hR
      rw [start_frameA (by simp)]; simp only [enumA, enumO, List.length_cons, List.length_nil, Nat.reduceAdd, go_sem]
      (repeat (first | (apply axJ; (focus ((with_reducible constructor) <;> rfl))) | ((first | apply awR hΓ | apply awG | apply ovE rfl); (simp (disch := omega) only [go_sem, ↓reduceIte, ↓lk, ↓ty_build25, dk, ↓c1, htp, ↓c2, ↓c4, hpl, ↓c5] <;> with_reducible rfl); exact trivial) | rfl))
      (show RetL _ _ _ (.data (.agg [.int .i64 1, .str nm, .str [], .list []])) _ _ _ _; refine retL_x rfl (x := .agg [.data (.int .i64 1), .data (.str nm), .data (.str []), .nils]) (by simp (disch := omega) only [go_sem, ↓reduceIte, dk] <;> rfl) ?_; exact (Weak.agg1 (l := [.data (.int .i64 1), .data (.str nm), .data (.str []), .nils]) (ds := [.int .i64 1, .str nm, .str [], .list []]) ⟨rfl, rfl, rfl, Or.inr (Or.inl ⟨rfl, rfl⟩), trivial⟩ rfl).trans (Weak.of (by simp) ⟨rfl, trivial⟩ (by simp [TabSub, oRS, enumO, look, Obj.refsOK, refsOKs, AV.refsOK]) rfl))
    | false =>
      rw [hpl] at hR
      simp only [Bool.false_eq_true, if_false] at hR
      cases hwi : (t2 == [119, 105, 116, 104]) with
      | true =>
        rw [hwi] at hR
        simp only [if_true] at hR
        have htt := eq_of_beq hwi
        obtain ⟨he3, hl3⟩ := htl2 (by rw [htt]; simp)
        rw [htt] at hl3
        simp only [List.length_cons, List.length_nil] at hl3
        have c5 := fun k n tab => call_take k n tab s a3 o3 e3 h3 [119, 105, 116, 104] (by omega) (by simp)
        have c6 := fun k n tab => call_pname k n tab s (a3 + 4) o3 e3 h3 ⟨hs, by dsimp only; omega, .inl (by dsimp only; omega)⟩
        simp only [oRS, pTake, List.length_cons, List.length_nil, Nat.reduceAdd] at c5 hR
        generalize pName s ⟨a3 + 4, o3, e3, h3⟩ = X at *
        obtain ⟨ex, ⟨a4, o4, e4, h4⟩⟩ := X
        dsimp only at c6 hR
        simp only [oRS] at c6
        subst hR
        rw [start_frameA (by simp)]; simp only [enumA, enumO, List.length_cons, List.length_nil, Nat.reduceAdd, go_sem]
        (repeat (first | (apply axJ; (focus ((with_reducible constructor) <;> rfl))) | ((first | apply awR hΓ | apply awG | apply ovE rfl); (simp (disch := omega) only [go_sem, ↓reduceIte, ↓lk, ↓ty_build25, dk, ↓c1, htp, ↓c2, ↓c4, hpl, hwi, ↓c5, ↓c6] <;> with_reducible rfl); exact trivial) | rfl))
        (show RetL _ _ _ (.data (.agg [.int .i64 0, .str nm, .str ex, .list []])) _ _ _ _; refine retL_x rfl (x := .agg [.data (.int .i64 0), .data (.str nm), .data (.str ex), .nils]) (by simp (disch := omega) only [go_sem, ↓reduceIte, dk] <;> rfl) ?_; exact (Weak.agg1 (l := [.data (.int .i64 0), .data (.str nm), .data (.str ex), .nils]) (ds := [.int .i64 0, .str nm, .str ex, .list []]) ⟨rfl, rfl, rfl, Or.inr (Or.inl ⟨rfl, rfl⟩), trivial⟩ rfl).trans (Weak.of (by simp) ⟨rfl, trivial⟩ (by simp [TabSub, oRS, enumO, look, Obj.refsOK, refsOKs, AV.refsOK]) rfl))
      | false =>
        rw [hwi] at hR
        simp only [Bool.false_eq_true, if_false] at hR
        subst hR
        rw [start_frameA (by simp)]; simp only [enumA, enumO, List.length_cons, List.length_nil, Nat.reduceAdd, go_sem]
        (repeat (first | (apply axJ; (focus ((with_reducible constructor) <;> rfl))) | ((first | apply awR hΓ | apply awG | apply ovE rfl); (simp (disch := omega) only [go_sem, ↓reduceIte, ↓lk, ↓ty_build25, dk, ↓c1, htp, ↓c2, ↓c4, hpl, hwi] <;> with_reducible rfl); exact trivial) | rfl))
        (show RetL _ _ _ (.data (.agg [.int .i64 0, .str nm, .str [], .list []])) _ _ _ _; refine retL_x rfl (x := .agg [.data (.int .i64 0), .data (.str nm), .data (.str []), .nils]) (by simp (disch := omega) only [go_sem, ↓reduceIte, dk] <;> rfl) ?_; exact (Weak.agg1 (l := [.data (.int .i64 0), .data (.str nm), .data (.str []), .nils]) (ds := [.int .i64 0, .str nm, .str [], .list []]) ⟨rfl, rfl, rfl, Or.inr (Or.inl ⟨rfl, rfl⟩), trivial⟩ rfl).trans (Weak.of (by simp) ⟨rfl, trivial⟩ (by simp [TabSub, oRS, enumO, look, Obj.refsOK, refsOKs, AV.refsOK]) rfl))
theorem f_patom_ok : ∀ d : Nat, d ≤ 24 → LocOK Tryd.prog 30 (g_patom d)
 | 0, _ => f_patom_step 0 (fun _ => none) (fun _ => rfl) (fun _ _ => none) (fun xs os r os' h => by cases h) (fun s f hf => by cases hf) (fun _ _ => rfl)
 | d + 1, h => f_patom_step (d + 1) (fun s => some (pOrsD s d)) (fun _ => rfl) (g_porsA d) (f_porsA_ok d (by omega) (g_pcloA d) (f_pcloA_ok d (f_pands_ok d (by omega) (g_patom d) (f_patom_ok d (by omega)) (fun s _ => atom_out d) (fun k n tab s r hr => call_patom d k n tab s r hr))) (fun s _ => ands_out d) (fun k n tab s r hr => call_pcloA d k n tab s r hr)) (fun s f hf => by
    cases hf
    exact ⟨d, rfl, ors_out d, fun k n tab r hr => (callLoc_of (fp := [0, 1]) rfl rfl rfl (g_porsA_eq d s r hr) (Nat.le_refl _)).trans rfl⟩) (fun s hf => by cases hf)
theorem f_ptop_ok : LocOK Tryd.prog 28 (g_porsP 24) :=
  f_porsP_ok 24 (Nat.le_refl _) (g_pcloP 24) (f_pcloP_ok 24 (f_pands_ok 24 (Nat.le_refl _) (g_patom 24) (f_patom_ok 24 (Nat.le_refl _)) (fun s _ => atom_out 24) (fun k n tab s r hr => call_patom 24 k n tab s r hr))) (fun s _ => ands_out 24) (fun k n tab s r hr => call_pcloP 24 k n tab s r hr)
end Go.Ab
