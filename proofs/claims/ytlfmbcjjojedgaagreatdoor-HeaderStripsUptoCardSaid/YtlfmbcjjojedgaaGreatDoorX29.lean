/-
  One text of the proof (own work): contracts of functions of the program, by the abstract machine.
-/
import Derived.Test.YtlfmbcjjojedgaaGreatDoorX19
import Derived.Test.YtlfmbcjjojedgaaGreatDoorX28
set_option linter.unusedVariables false
set_option linter.unusedSimpArgs false
namespace Go.Ab
open Go Go.RowKit Go.Proofs
set_option maxRecDepth 10000
set_option maxHeartbeats 8000000
theorem skipN_mono (s : List UInt8) (a : Nat) : a ≤ skipN s a ∧ skipN s a ≤ max a s.length := by
  rcases Nat.lt_or_ge a s.length with h | h
  · have h2 : a ≤ skipN s a ∧ skipN s a ≤ s.length := runN_le (by omega)
    exact ⟨h2.1, by omega⟩
  · rw [show skipN s a = a from runN_end h]; omega
theorem skipN_idem (s : List UInt8) (a : Nat) : skipN s (skipN s a) = skipN s a := by
  unfold skipN runN
  rw [← List.drop_drop]
  have : ((s.drop a).drop ((s.drop a).takeWhile isBl).length).takeWhile isBl = [] := by
    generalize s.drop a = q
    have : q.drop (q.takeWhile isBl).length = q.dropWhile isBl := by
      conv => lhs; rw [← List.takeWhile_append_dropWhile (p := isBl) (l := q)]
      rw [show (List.takeWhile isBl (List.takeWhile isBl q ++ List.dropWhile isBl q)) = q.takeWhile isBl by rw [List.takeWhile_append_dropWhile]]
      exact List.drop_left ..
    rw [this]
    induction q with
    | nil => rfl
    | cons b q ih =>
      rw [List.dropWhile_cons]
      split
      · exact ih (by
          rename_i hb
          rw [List.takeWhile_cons, if_pos hb, List.dropWhile_cons, if_pos hb] at this
          simpa using this)
      · rename_i hb
        rw [List.takeWhile_cons, if_neg hb]
  rw [this]
  simp
theorem tokAt_len (s : List UInt8) (b : Nat) (h : b ≤ s.length) : b + (tokAt s b).length ≤ s.length := by
  unfold tokAt
  split
  · split
    · rename_i c hc
      have := (List.getElem?_eq_some_iff.1 hc).1
      split <;> simp <;> omega
    · simp; omega
  · exact wordN_le s b h
structure PeekOK (s : List UInt8) (r : RS) (t : List UInt8) (r' : RS) : Prop where
  at1 : r'.at' = skipN s r.at'
  op1 : r'.op = r.op
  er : r.e ≠ 0 → t = [] ∧ r'.e = r.e ∧ r'.here = r.here
  ok : r'.e = 0 → r.e = 0 ∧ r'.here = r.here
  tl : t ≠ [] → r'.e = 0 ∧ r'.at' + t.length ≤ s.length
theorem peek_ok {s : List UInt8} {r : RS} (hr : r.at' ≤ s.length ∨ r.e ≠ 0) : PeekOK s r (pPeek s r).1 (pPeek s r).2 := by
  unfold pPeek
  have h1 := skipN_mono s r.at'
  split
  · rename_i h
    refine ⟨rfl, rfl, fun he => ⟨rfl, rfl, rfl⟩, fun he => ⟨he, rfl⟩, fun he => absurd rfl he⟩
  · rename_i h
    simp only [Bool.or_eq_true, not_or, beq_iff_eq, bne_iff_ne, ne_eq, Classical.not_not] at h
    have hle : r.at' ≤ s.length := by
      rcases hr with h2 | h2
      · exact h2
      · exact absurd h.2 h2
    split
    · exact ⟨rfl, rfl, fun he => absurd h.2 he, fun he => absurd (show (4 : Int) = 0 from he) (by decide), fun he => absurd rfl he⟩
    · exact ⟨rfl, rfl, fun he => absurd h.2 he, fun _ => ⟨h.2, rfl⟩, fun _ => ⟨h.2, tokAt_len s (skipN s r.at') (by omega)⟩⟩
def pName (s : List UInt8) (r : RS) : List UInt8 × RS :=
  if ((pPeek s r).1 == []) || ((pPeek s r).1 == [43]) || ((pPeek s r).1 == [40]) || ((pPeek s r).1 == [41]) then ([], pFail (pPeek s r).2 4 (pPeek s r).2.at')
  else if !(isNameB (pPeek s r).1) then ([], pFail (pPeek s r).2 2 (pPeek s r).2.at')
  else ((pPeek s r).1, pTake (pPeek s r).2 (pPeek s r).1.length)
def Inv (s : List UInt8) (r : RS) : Prop := s.length ≤ 1024 ∧ r.at' ≤ 4096 ∧ (r.at' ≤ s.length ∨ r.e ≠ 0)
theorem Inv.rs {s : List UInt8} {r : RS} (h : Inv s r) : RSok s r := ⟨by have := h.1; omega, by have := h.2.1; omega, h.2.2⟩
noncomputable def g_pname := locSpec (fun _ : List UInt8 × RS => [.ptr 0 0]) (fun x => [oRS x.1 x.2]) (fun x => Inv x.1 x.2) (fun x => (.data (.str (pName x.1 x.2).1), [oRS x.1 (pName x.1 x.2).2]))
theorem g_pname_eq (s : List UInt8) (r : RS) (hd : Inv s r) : g_pname [.ptr 0 0] [oRS s r] = some (.data (.str (pName s r).1), [oRS s (pName s r).2]) := locSpec_eq (x := (s, r)) hd fun y _ h2 => by
  obtain ⟨y1, y2⟩ := y
  simp only [List.cons.injEq, and_true] at h2
  obtain ⟨rfl, rfl⟩ := oRS_inj h2
  rfl
theorem f_pname_ok : LocOK Tryz.prog 119 g_pname := by
  have hΓ := (Γp f_isName_ok (Γq f_peek_ok (Γq f_fail_ok (Γq f_take_ok (Γn)))))
  refine loc_enc (n := 41) (rs := [.tmp 2]) Tryz.func119 (by kernel_rfl) rfl (by kernel_rfl) (by kernel_rfl) ?_
  rintro ⟨s, ⟨a, o, e, h⟩⟩ hI k hz0
  dsimp only [oRS] at hz0 ⊢
  simp only [List.length_cons, List.length_nil] at hz0
  have c1 := fun k n tab => call_peek k n tab s a o e h hI.rs
  have hp := peek_ok (s := s) (r := ⟨a, o, e, h⟩) hI.2.2
  obtain ⟨hs, ha, hor⟩ := hI
  dsimp only at hs ha hor
  generalize hR : pName s ⟨a, o, e, h⟩ = R
  unfold pName at hR
  generalize pPeek s ⟨a, o, e, h⟩ = P at *
  obtain ⟨t, ⟨a1, o1, e1, h1⟩⟩ := P
  dsimp only at hp hR c1
  have hm := skipN_mono s a
  have hat := hp.at1
  dsimp only at hat ha
  have htl := hp.tl
  dsimp only at htl
  have c2 := fun k n tab => call_fail k n tab s a1 o1 e1 h1 4 a1
  have c3 := fun k n tab => call_fail k n tab s a1 o1 e1 h1 2 a1
  have ha1 : a1 ≤ 4096 := by omega
  by_cases ht0 : t = []
  · subst ht0
    have hb : (([] : List UInt8) == []) = true := rfl
    simp only [hb, Bool.true_or, if_true] at hR
    subst hR
    rw [start_frameA (by simp)]; simp only [enumA, enumO, List.length_cons, List.length_nil, Nat.reduceAdd, go_sem]
    repeat (first
      | (apply axJ; (focus ((with_reducible constructor) <;> rfl)))
      | (apply awT mixedOK hΓ (by kernel_rfl); (simp (disch := omega) only [go_sem, ↓reduceIte, dk, c1, c2, hb] <;> with_reducible rfl))
      | ((first | apply awR hΓ | apply awG | apply awH mixedOK hΓ rfl (by kernel_rfl) | apply ovE rfl); (simp (disch := omega) only [go_sem, ↓reduceIte, dk, c1, c2, hb] <;> with_reducible rfl); exact trivial)
      | rfl)
    exact retL_x rfl rfl (Weak.of (by simp) ⟨rfl, trivial⟩ (by simp [TabSub, oRS, enumO, look, Obj.refsOK, refsOKs, AV.refsOK]) rfl)
  · obtain ⟨he1, hlen⟩ := htl ht0
    have hb : (t == []) = false := by simpa using ht0
    have ein := g_isName_eq (s := t) (by omega)
    have c4 := fun k n tab => call_take k n tab s a1 o1 e1 h1 t (by omega) (by omega)
    generalize hb1 : (t == [43]) = b1 at *
    generalize hb2 : (t == [40]) = b2 at *
    generalize hb3 : (t == [41]) = b3 at *
    generalize isNameB t = b4 at *
    simp only [hb, Bool.false_or] at hR
    rw [start_frameA (by simp)]; simp only [enumA, enumO, List.length_cons, List.length_nil, Nat.reduceAdd, go_sem]
    (cases b1; (focus (cases b2; (focus (cases b3; (focus (cases b4; (focus ((repeat (first | (apply axJ; (focus ((with_reducible constructor) <;> rfl))) | (apply awT mixedOK hΓ (by kernel_rfl); (simp (disch := omega) only [go_sem, ↓reduceIte, dk, c1, hb, hb1, hb2, hb3, ein, c2, c3, c4] <;> with_reducible rfl)) | ((first | apply awR hΓ | apply awG | apply awH mixedOK hΓ rfl (by kernel_rfl) | apply ovE rfl); (simp (disch := omega) only [go_sem, ↓reduceIte, dk, c1, hb, hb1, hb2, hb3, ein, c2, c3, c4] <;> with_reducible rfl); exact trivial) | rfl)); ((subst hR; exact retL_x rfl rfl (Weak.of (by simp) ⟨rfl, trivial⟩ (by simp [TabSub, oRS, enumO, look, Obj.refsOK, refsOKs, AV.refsOK]) rfl))))); (focus ((repeat (first | (apply axJ; (focus ((with_reducible constructor) <;> rfl))) | (apply awT mixedOK hΓ (by kernel_rfl); (simp (disch := omega) only [go_sem, ↓reduceIte, dk, c1, hb, hb1, hb2, hb3, ein, c2, c3, c4] <;> with_reducible rfl)) | ((first | apply awR hΓ | apply awG | apply awH mixedOK hΓ rfl (by kernel_rfl) | apply ovE rfl); (simp (disch := omega) only [go_sem, ↓reduceIte, dk, c1, hb, hb1, hb2, hb3, ein, c2, c3, c4] <;> with_reducible rfl); exact trivial) | rfl)); ((subst hR; exact retL_x rfl rfl (Weak.of (by simp) ⟨rfl, trivial⟩ (by simp [TabSub, oRS, enumO, look, Obj.refsOK, refsOKs, AV.refsOK]) rfl))))))); (focus ((repeat (first | (apply axJ; (focus ((with_reducible constructor) <;> rfl))) | (apply awT mixedOK hΓ (by kernel_rfl); (simp (disch := omega) only [go_sem, ↓reduceIte, dk, c1, hb, hb1, hb2, hb3, ein, c2, c3, c4] <;> with_reducible rfl)) | ((first | apply awR hΓ | apply awG | apply awH mixedOK hΓ rfl (by kernel_rfl) | apply ovE rfl); (simp (disch := omega) only [go_sem, ↓reduceIte, dk, c1, hb, hb1, hb2, hb3, ein, c2, c3, c4] <;> with_reducible rfl); exact trivial) | rfl)); ((subst hR; exact retL_x rfl rfl (Weak.of (by simp) ⟨rfl, trivial⟩ (by simp [TabSub, oRS, enumO, look, Obj.refsOK, refsOKs, AV.refsOK]) rfl))))))); (focus ((repeat (first | (apply axJ; (focus ((with_reducible constructor) <;> rfl))) | (apply awT mixedOK hΓ (by kernel_rfl); (simp (disch := omega) only [go_sem, ↓reduceIte, dk, c1, hb, hb1, hb2, hb3, ein, c2, c3, c4] <;> with_reducible rfl)) | ((first | apply awR hΓ | apply awG | apply awH mixedOK hΓ rfl (by kernel_rfl) | apply ovE rfl); (simp (disch := omega) only [go_sem, ↓reduceIte, dk, c1, hb, hb1, hb2, hb3, ein, c2, c3, c4] <;> with_reducible rfl); exact trivial) | rfl)); ((subst hR; exact retL_x rfl rfl (Weak.of (by simp) ⟨rfl, trivial⟩ (by simp [TabSub, oRS, enumO, look, Obj.refsOK, refsOKs, AV.refsOK]) rfl))))))); (focus ((repeat (first | (apply axJ; (focus ((with_reducible constructor) <;> rfl))) | (apply awT mixedOK hΓ (by kernel_rfl); (simp (disch := omega) only [go_sem, ↓reduceIte, dk, c1, hb, hb1, hb2, hb3, ein, c2, c3, c4] <;> with_reducible rfl)) | ((first | apply awR hΓ | apply awG | apply awH mixedOK hΓ rfl (by kernel_rfl) | apply ovE rfl); (simp (disch := omega) only [go_sem, ↓reduceIte, dk, c1, hb, hb1, hb2, hb3, ein, c2, c3, c4] <;> with_reducible rfl); exact trivial) | rfl)); ((subst hR; exact retL_x rfl rfl (Weak.of (by simp) ⟨rfl, trivial⟩ (by simp [TabSub, oRS, enumO, look, Obj.refsOK, refsOKs, AV.refsOK]) rfl))))))
theorem call_pname (k n : Nat) (tab : List (Nat × Obj)) (s : List UInt8) (a : Nat) (o e h : Int) (hd : Inv s ⟨a, o, e, h⟩) : callLoc k ⟨(0, .box [.data (.str s), .data (.int .i64 a), .data (.int .i64 o), .data (.int .i64 e), .data (.int .i64 h)]) :: tab, n⟩ g_pname [.ptr 0 0] =
    some (.data (.str (pName s ⟨a, o, e, h⟩).1), ⟨(0, oRS s (pName s ⟨a, o, e, h⟩).2) :: tab, k⟩) := (callLoc_of (fp := [0]) rfl rfl rfl (g_pname_eq s ⟨a, o, e, h⟩ hd) (Nat.le_refl _)).trans rfl
end Go.Ab
