/-
  One text of the proof (own work): contracts of functions of the program, by the abstract machine.
-/
import Derived.Test.YtdodjhiofpiaaaaDoorX37
import Derived.Test.YtdodjhiofpiaaaaDoorX19
set_option linter.unusedVariables false
set_option linter.unusedSimpArgs false
namespace Go.Ab
open Go Go.RowKit Go.Proofs Go.Shelf
set_option maxRecDepth 10000
set_option maxHeartbeats 8000000
theorem join_cons (c : Bs) (w : Bs) (l : List Bs) (h : l ≠ []) : Lib.join (w :: l) c = w ++ c ++ Lib.join l c := by
  cases l with
  | nil => exact absurd rfl h
  | cons v r => simp [Lib.join]
theorem split_join (c : UInt8) (s : Bs) : Lib.join (splitB c s) [c] = s := by
  induction s with
  | nil => rfl
  | cons x r ih =>
    rw [splitB]
    split
    · rename_i h
      rw [join_cons _ _ _ (splitB_ne c r), ih, eq_of_beq h]
      rfl
    · cases hs : splitB c r with
      | nil => exact absurd hs (splitB_ne c r)
      | cons w l =>
        rw [hs] at ih
        show Lib.join (([x] ++ w) :: l) [c] = _
        cases l with
        | nil => simp [Lib.join] at ih ⊢; exact ih
        | cons v q =>
          rw [join_cons _ _ _ (by simp)] at ih ⊢
          rw [List.append_assoc, List.append_assoc, ← List.append_assoc w, ih]
          rfl
def wordsG (l : List Gp) : List Bs := l.flatMap fun g => g.name :: g.words
theorem gAll_flat (l : List Bs) : ∀ p : List Gp × Gp, wordsG ((l.foldl gstep p).1 ++ [(l.foldl gstep p).2]) = wordsG (p.1 ++ [p.2]) ++ l := by
  induction l with
  | nil => intro p; simp
  | cons w l ih =>
    intro p
    rw [List.foldl_cons, ih]
    unfold gstep
    split
    · simp [wordsG]
    · simp [wordsG]
theorem gList_flat (nm : Bs) (l : List Bs) : wordsG (gList nm l) = nm :: l := by
  have h := gAll_flat l ([], ⟨nm, []⟩)
  simpa [wordsG, gList, gAll] using h
theorem pos2 (n : Nat) : (0 < (n : Int) + 1 + 1) = True := by simp; omega
structure Good (X : Stp) (ws : List Bs) : Prop where
  ln : X.line = 0
  tx : [32] ++ textS X = listS ws
  wd : (wordsP X).1.flatten = ws
  ok : (wordsP X).2 = true
theorem good_Compile0 (a : Bs) (x0 : Bs) (hb : NoBl (⟨kCompile, [a]⟩ :: [⟨kTo, [x0]⟩])) : ∃ X, stepR (⟨kCompile, [a]⟩ :: [⟨kTo, [x0]⟩]) = (X, true) ∧ Good X (wordsG (⟨kCompile, [a]⟩ :: [⟨kTo, [x0]⟩])) := by
  refine ⟨⟨0, 1, [a], [], [], x0⟩, ?_, ⟨rfl, ?_, ?_, ?_⟩⟩
  · obtain ⟨q1, q2, q3, q4, q5, q6, q7, q8, q9, q10, q11⟩ := cc_dd hb
    unfold stepR stepG
    rw [q1, q2, q3, q4, q5, q6, q7, q8, q9, q10, q11]
    rfl
  · simp [textS, txA, txB, txC, usgS, wordsG, listS, listS_append, kCompile, kArchive, kShare, kLink, kRun, kPatch, kCopy, kInstall, kTo, kAs, kOn, kWith, kUsing, pos2]
  · simp [wordsP, wordsG, behB]
  · simp [wordsP]
theorem good_Compile1 (a : Bs) (x0 : Bs) (x1 : Bs) (hb : NoBl (⟨kCompile, [a]⟩ :: [⟨kTo, [x0]⟩, ⟨kWith, [x1]⟩])) : ∃ X, stepR (⟨kCompile, [a]⟩ :: [⟨kTo, [x0]⟩, ⟨kWith, [x1]⟩]) = (X, true) ∧ Good X (wordsG (⟨kCompile, [a]⟩ :: [⟨kTo, [x0]⟩, ⟨kWith, [x1]⟩])) := by
  refine ⟨⟨0, 1, [a], [], [x1], x0⟩, ?_, ⟨rfl, ?_, ?_, ?_⟩⟩
  · obtain ⟨q1, q2, q3, q4, q5, q6, q7, q8, q9, q10, q11⟩ := cc_dd hb
    unfold stepR stepG
    rw [q1, q2, q3, q4, q5, q6, q7, q8, q9, q10, q11]
    rfl
  · simp [textS, txA, txB, txC, usgS, wordsG, listS, listS_append, kCompile, kArchive, kShare, kLink, kRun, kPatch, kCopy, kInstall, kTo, kAs, kOn, kWith, kUsing, pos2]
  · simp [wordsP, wordsG, behB]
  · simp [wordsP]
theorem good_Compile2 (a : Bs) (x0 : Bs) (x1 y1 : Bs) (z1 : List Bs) (hb : NoBl (⟨kCompile, [a]⟩ :: [⟨kTo, [x0]⟩, ⟨kWith, x1 :: y1 :: z1⟩])) : ∃ X, stepR (⟨kCompile, [a]⟩ :: [⟨kTo, [x0]⟩, ⟨kWith, x1 :: y1 :: z1⟩]) = (X, true) ∧ Good X (wordsG (⟨kCompile, [a]⟩ :: [⟨kTo, [x0]⟩, ⟨kWith, x1 :: y1 :: z1⟩])) := by
  refine ⟨⟨0, 1, [a], [], x1 :: y1 :: z1, x0⟩, ?_, ⟨rfl, ?_, ?_, ?_⟩⟩
  · obtain ⟨q1, q2, q3, q4, q5, q6, q7, q8, q9, q10, q11⟩ := cc_dd hb
    unfold stepR stepG
    rw [q1, q2, q3, q4, q5, q6, q7, q8, q9, q10, q11]
    rfl
  · simp [textS, txA, txB, txC, usgS, wordsG, listS, listS_append, kCompile, kArchive, kShare, kLink, kRun, kPatch, kCopy, kInstall, kTo, kAs, kOn, kWith, kUsing, pos2]
  · simp [wordsP, wordsG, behB]
  · simp [wordsP]
theorem good_Archive0 (a : Bs) (x0 : Bs) (hb : NoBl (⟨kArchive, [a]⟩ :: [⟨kTo, [x0]⟩])) : ∃ X, stepR (⟨kArchive, [a]⟩ :: [⟨kTo, [x0]⟩]) = (X, true) ∧ Good X (wordsG (⟨kArchive, [a]⟩ :: [⟨kTo, [x0]⟩])) := by
  refine ⟨⟨0, 2, [a], [], [], x0⟩, ?_, ⟨rfl, ?_, ?_, ?_⟩⟩
  · obtain ⟨q1, q2, q3, q4, q5, q6, q7, q8, q9, q10, q11⟩ := cc_dd hb
    unfold stepR stepG
    rw [q1, q2, q3, q4, q5, q6, q7, q8, q9, q10, q11]
    rfl
  · simp [textS, txA, txB, txC, usgS, wordsG, listS, listS_append, kCompile, kArchive, kShare, kLink, kRun, kPatch, kCopy, kInstall, kTo, kAs, kOn, kWith, kUsing, pos2]
  · simp [wordsP, wordsG, behB]
  · simp [wordsP]
theorem good_Archive1 (a b : Bs) (r : List Bs) (x0 : Bs) (hb : NoBl (⟨kArchive, a :: b :: r⟩ :: [⟨kTo, [x0]⟩])) : ∃ X, stepR (⟨kArchive, a :: b :: r⟩ :: [⟨kTo, [x0]⟩]) = (X, true) ∧ Good X (wordsG (⟨kArchive, a :: b :: r⟩ :: [⟨kTo, [x0]⟩])) := by
  refine ⟨⟨0, 2, a :: b :: r, [], [], x0⟩, ?_, ⟨rfl, ?_, ?_, ?_⟩⟩
  · obtain ⟨q1, q2, q3, q4, q5, q6, q7, q8, q9, q10, q11⟩ := cc_dd hb
    unfold stepR stepG
    rw [q1, q2, q3, q4, q5, q6, q7, q8, q9, q10, q11]
    rfl
  · simp [textS, txA, txB, txC, usgS, wordsG, listS, listS_append, kCompile, kArchive, kShare, kLink, kRun, kPatch, kCopy, kInstall, kTo, kAs, kOn, kWith, kUsing, pos2]
  · simp [wordsP, wordsG, behB]
  · simp [wordsP]
theorem good_Share0 (a : Bs) (x0 : Bs) (hb : NoBl (⟨kShare, [a]⟩ :: [⟨kTo, [x0]⟩])) : ∃ X, stepR (⟨kShare, [a]⟩ :: [⟨kTo, [x0]⟩]) = (X, true) ∧ Good X (wordsG (⟨kShare, [a]⟩ :: [⟨kTo, [x0]⟩])) := by
  refine ⟨⟨0, 3, [a], [], [], x0⟩, ?_, ⟨rfl, ?_, ?_, ?_⟩⟩
  · obtain ⟨q1, q2, q3, q4, q5, q6, q7, q8, q9, q10, q11⟩ := cc_dd hb
    unfold stepR stepG
    rw [q1, q2, q3, q4, q5, q6, q7, q8, q9, q10, q11]
    rfl
  · simp [textS, txA, txB, txC, usgS, wordsG, listS, listS_append, kCompile, kArchive, kShare, kLink, kRun, kPatch, kCopy, kInstall, kTo, kAs, kOn, kWith, kUsing, pos2]
  · simp [wordsP, wordsG, behB]
  · simp [wordsP]
theorem good_Share1 (a b : Bs) (r : List Bs) (x0 : Bs) (hb : NoBl (⟨kShare, a :: b :: r⟩ :: [⟨kTo, [x0]⟩])) : ∃ X, stepR (⟨kShare, a :: b :: r⟩ :: [⟨kTo, [x0]⟩]) = (X, true) ∧ Good X (wordsG (⟨kShare, a :: b :: r⟩ :: [⟨kTo, [x0]⟩])) := by
  refine ⟨⟨0, 3, a :: b :: r, [], [], x0⟩, ?_, ⟨rfl, ?_, ?_, ?_⟩⟩
  · obtain ⟨q1, q2, q3, q4, q5, q6, q7, q8, q9, q10, q11⟩ := cc_dd hb
    unfold stepR stepG
    rw [q1, q2, q3, q4, q5, q6, q7, q8, q9, q10, q11]
    rfl
  · simp [textS, txA, txB, txC, usgS, wordsG, listS, listS_append, kCompile, kArchive, kShare, kLink, kRun, kPatch, kCopy, kInstall, kTo, kAs, kOn, kWith, kUsing, pos2]
  · simp [wordsP, wordsG, behB]
  · simp [wordsP]
theorem good_Link0 (a b : Bs) (r : List Bs) (x0 : Bs) (hb : NoBl (⟨kLink, a :: b :: r⟩ :: [⟨kTo, [x0]⟩])) : ∃ X, stepR (⟨kLink, a :: b :: r⟩ :: [⟨kTo, [x0]⟩]) = (X, true) ∧ Good X (wordsG (⟨kLink, a :: b :: r⟩ :: [⟨kTo, [x0]⟩])) := by
  refine ⟨⟨0, 4, b :: r, [], [a], x0⟩, ?_, ⟨rfl, ?_, ?_, ?_⟩⟩
  · obtain ⟨q1, q2, q3, q4, q5, q6, q7, q8, q9, q10, q11⟩ := cc_dd hb
    unfold stepR stepG
    rw [q1, q2, q3, q4, q5, q6, q7, q8, q9, q10, q11]
    rfl
  · simp [textS, txA, txB, txC, usgS, wordsG, listS, listS_append, kCompile, kArchive, kShare, kLink, kRun, kPatch, kCopy, kInstall, kTo, kAs, kOn, kWith, kUsing, pos2]
  · simp [wordsP, wordsG, behB]
  · simp [wordsP]
theorem good_Link1 (a b : Bs) (r : List Bs) (x0 : Bs) (x1 : Bs) (hb : NoBl (⟨kLink, a :: b :: r⟩ :: [⟨kUsing, [x0]⟩, ⟨kTo, [x1]⟩])) : ∃ X, stepR (⟨kLink, a :: b :: r⟩ :: [⟨kUsing, [x0]⟩, ⟨kTo, [x1]⟩]) = (X, true) ∧ Good X (wordsG (⟨kLink, a :: b :: r⟩ :: [⟨kUsing, [x0]⟩, ⟨kTo, [x1]⟩])) := by
  refine ⟨⟨0, 4, b :: r, [x0], [a], x1⟩, ?_, ⟨rfl, ?_, ?_, ?_⟩⟩
  · obtain ⟨q1, q2, q3, q4, q5, q6, q7, q8, q9, q10, q11⟩ := cc_dd hb
    unfold stepR stepG
    rw [q1, q2, q3, q4, q5, q6, q7, q8, q9, q10, q11]
    rfl
  · simp [textS, txA, txB, txC, usgS, wordsG, listS, listS_append, kCompile, kArchive, kShare, kLink, kRun, kPatch, kCopy, kInstall, kTo, kAs, kOn, kWith, kUsing, pos2]
  · simp [wordsP, wordsG, behB]
  · simp [wordsP]
theorem good_Link2 (a b : Bs) (r : List Bs) (x0 y0 : Bs) (z0 : List Bs) (x1 : Bs) (hb : NoBl (⟨kLink, a :: b :: r⟩ :: [⟨kUsing, x0 :: y0 :: z0⟩, ⟨kTo, [x1]⟩])) : ∃ X, stepR (⟨kLink, a :: b :: r⟩ :: [⟨kUsing, x0 :: y0 :: z0⟩, ⟨kTo, [x1]⟩]) = (X, true) ∧ Good X (wordsG (⟨kLink, a :: b :: r⟩ :: [⟨kUsing, x0 :: y0 :: z0⟩, ⟨kTo, [x1]⟩])) := by
  refine ⟨⟨0, 4, b :: r, x0 :: y0 :: z0, [a], x1⟩, ?_, ⟨rfl, ?_, ?_, ?_⟩⟩
  · obtain ⟨q1, q2, q3, q4, q5, q6, q7, q8, q9, q10, q11⟩ := cc_dd hb
    unfold stepR stepG
    rw [q1, q2, q3, q4, q5, q6, q7, q8, q9, q10, q11]
    rfl
  · simp [textS, txA, txB, txC, usgS, wordsG, listS, listS_append, kCompile, kArchive, kShare, kLink, kRun, kPatch, kCopy, kInstall, kTo, kAs, kOn, kWith, kUsing, pos2]
  · simp [wordsP, wordsG, behB]
  · simp [wordsP]
theorem good_Run0 (a : Bs) (x0 : Bs) (x1 : Bs) (hb : NoBl (⟨kRun, [a]⟩ :: [⟨kOn, [x0]⟩, ⟨kTo, [x1]⟩])) : ∃ X, stepR (⟨kRun, [a]⟩ :: [⟨kOn, [x0]⟩, ⟨kTo, [x1]⟩]) = (X, true) ∧ Good X (wordsG (⟨kRun, [a]⟩ :: [⟨kOn, [x0]⟩, ⟨kTo, [x1]⟩])) := by
  refine ⟨⟨0, 5, [a, x0], [], [], x1⟩, ?_, ⟨rfl, ?_, ?_, ?_⟩⟩
  · obtain ⟨q1, q2, q3, q4, q5, q6, q7, q8, q9, q10, q11⟩ := cc_dd hb
    unfold stepR stepG
    rw [q1, q2, q3, q4, q5, q6, q7, q8, q9, q10, q11]
    rfl
  · simp [textS, txA, txB, txC, usgS, wordsG, listS, listS_append, kCompile, kArchive, kShare, kLink, kRun, kPatch, kCopy, kInstall, kTo, kAs, kOn, kWith, kUsing, pos2]
  · simp [wordsP, wordsG, behB]
  · simp [wordsP]
theorem good_Run1 (a : Bs) (x0 : Bs) (x1 : Bs) (x2 : Bs) (hb : NoBl (⟨kRun, [a]⟩ :: [⟨kUsing, [x0]⟩, ⟨kOn, [x1]⟩, ⟨kTo, [x2]⟩])) : ∃ X, stepR (⟨kRun, [a]⟩ :: [⟨kUsing, [x0]⟩, ⟨kOn, [x1]⟩, ⟨kTo, [x2]⟩]) = (X, true) ∧ Good X (wordsG (⟨kRun, [a]⟩ :: [⟨kUsing, [x0]⟩, ⟨kOn, [x1]⟩, ⟨kTo, [x2]⟩])) := by
  refine ⟨⟨0, 5, [a, x1], [x0], [], x2⟩, ?_, ⟨rfl, ?_, ?_, ?_⟩⟩
  · obtain ⟨q1, q2, q3, q4, q5, q6, q7, q8, q9, q10, q11⟩ := cc_dd hb
    unfold stepR stepG
    rw [q1, q2, q3, q4, q5, q6, q7, q8, q9, q10, q11]
    rfl
  · simp [textS, txA, txB, txC, usgS, wordsG, listS, listS_append, kCompile, kArchive, kShare, kLink, kRun, kPatch, kCopy, kInstall, kTo, kAs, kOn, kWith, kUsing, pos2]
  · simp [wordsP, wordsG, behB]
  · simp [wordsP]
theorem good_Run2 (a : Bs) (x0 y0 : Bs) (z0 : List Bs) (x1 : Bs) (x2 : Bs) (hb : NoBl (⟨kRun, [a]⟩ :: [⟨kUsing, x0 :: y0 :: z0⟩, ⟨kOn, [x1]⟩, ⟨kTo, [x2]⟩])) : ∃ X, stepR (⟨kRun, [a]⟩ :: [⟨kUsing, x0 :: y0 :: z0⟩, ⟨kOn, [x1]⟩, ⟨kTo, [x2]⟩]) = (X, true) ∧ Good X (wordsG (⟨kRun, [a]⟩ :: [⟨kUsing, x0 :: y0 :: z0⟩, ⟨kOn, [x1]⟩, ⟨kTo, [x2]⟩])) := by
  refine ⟨⟨0, 5, [a, x1], x0 :: y0 :: z0, [], x2⟩, ?_, ⟨rfl, ?_, ?_, ?_⟩⟩
  · obtain ⟨q1, q2, q3, q4, q5, q6, q7, q8, q9, q10, q11⟩ := cc_dd hb
    unfold stepR stepG
    rw [q1, q2, q3, q4, q5, q6, q7, q8, q9, q10, q11]
    rfl
  · simp [textS, txA, txB, txC, usgS, wordsG, listS, listS_append, kCompile, kArchive, kShare, kLink, kRun, kPatch, kCopy, kInstall, kTo, kAs, kOn, kWith, kUsing, pos2]
  · simp [wordsP, wordsG, behB]
  · simp [wordsP]
theorem good_Patch0 (a : Bs) (x0 : Bs) (x1 : Bs) (hb : NoBl (⟨kPatch, [a]⟩ :: [⟨kWith, [x0]⟩, ⟨kTo, [x1]⟩])) : ∃ X, stepR (⟨kPatch, [a]⟩ :: [⟨kWith, [x0]⟩, ⟨kTo, [x1]⟩]) = (X, true) ∧ Good X (wordsG (⟨kPatch, [a]⟩ :: [⟨kWith, [x0]⟩, ⟨kTo, [x1]⟩])) := by
  refine ⟨⟨0, 6, [a, x0], [], [], x1⟩, ?_, ⟨rfl, ?_, ?_, ?_⟩⟩
  · obtain ⟨q1, q2, q3, q4, q5, q6, q7, q8, q9, q10, q11⟩ := cc_dd hb
    unfold stepR stepG
    rw [q1, q2, q3, q4, q5, q6, q7, q8, q9, q10, q11]
    rfl
  · simp [textS, txA, txB, txC, usgS, wordsG, listS, listS_append, kCompile, kArchive, kShare, kLink, kRun, kPatch, kCopy, kInstall, kTo, kAs, kOn, kWith, kUsing, pos2]
  · simp [wordsP, wordsG, behB]
  · simp [wordsP]
theorem good_Copy0 (a : Bs) (x0 : Bs) (hb : NoBl (⟨kCopy, [a]⟩ :: [⟨kTo, [x0]⟩])) : ∃ X, stepR (⟨kCopy, [a]⟩ :: [⟨kTo, [x0]⟩]) = (X, true) ∧ Good X (wordsG (⟨kCopy, [a]⟩ :: [⟨kTo, [x0]⟩])) := by
  refine ⟨⟨0, 7, [a], [], [], x0⟩, ?_, ⟨rfl, ?_, ?_, ?_⟩⟩
  · obtain ⟨q1, q2, q3, q4, q5, q6, q7, q8, q9, q10, q11⟩ := cc_dd hb
    unfold stepR stepG
    rw [q1, q2, q3, q4, q5, q6, q7, q8, q9, q10, q11]
    rfl
  · simp [textS, txA, txB, txC, usgS, wordsG, listS, listS_append, kCompile, kArchive, kShare, kLink, kRun, kPatch, kCopy, kInstall, kTo, kAs, kOn, kWith, kUsing, pos2]
  · simp [wordsP, wordsG, behB]
  · simp [wordsP]
theorem good_Install0 (a : Bs) (x0 : Bs) (hb : NoBl (⟨kInstall, [a]⟩ :: [⟨kAs, [x0]⟩])) : ∃ X, stepR (⟨kInstall, [a]⟩ :: [⟨kAs, [x0]⟩]) = (X, true) ∧ Good X (wordsG (⟨kInstall, [a]⟩ :: [⟨kAs, [x0]⟩])) := by
  refine ⟨⟨0, 8, [a], [], [], x0⟩, ?_, ⟨rfl, ?_, ?_, ?_⟩⟩
  · obtain ⟨q1, q2, q3, q4, q5, q6, q7, q8, q9, q10, q11⟩ := cc_dd hb
    unfold stepR stepG
    rw [q1, q2, q3, q4, q5, q6, q7, q8, q9, q10, q11]
    rfl
  · simp [textS, txA, txB, txC, usgS, wordsG, listS, listS_append, kCompile, kArchive, kShare, kLink, kRun, kPatch, kCopy, kInstall, kTo, kAs, kOn, kWith, kUsing, pos2]
  · simp [wordsP, wordsG, behB]
  · simp [wordsP]
theorem shapes {w0 : Bs} {w1 : List Bs} {t : List Gp} (hnb : NoBl (⟨w0, w1⟩ :: t)) (h : (stepR (⟨w0, w1⟩ :: t)).2 = true) : ∃ X, stepR (⟨w0, w1⟩ :: t) = (X, true) ∧ Good X (wordsG (⟨w0, w1⟩ :: t)) := by
  have hc := any_snd hnb
  rw [h, any_fits] at hc
  clear h
  rw [List.map_cons, show nsg ⟨[], w1⟩ = ([], (nsg ⟨w0, w1⟩).2) from rfl] at hc
  have hn0 : ∀ s, (nsg ⟨w0, w1⟩).2 = s → nsg ⟨w0, w1⟩ = (w0, s) := fun s h => Prod.ext rfl h
  generalize hs0 : (nsg ⟨w0, w1⟩).2 = s0 at *
  have hn1 := hn0 _ rfl
  clear hn0 hs0
  by_cases h0 : w0 = kCompile
  · subst h0
    rw [rwN_Compile] at hc
    simp only [List.any_cons, List.any_nil, Bool.or_false, Bool.or_eq_true, beq_iff_eq, List.cons.injEq, Prod.mk.injEq, true_and] at hc
    rcases hc with ⟨hs, hT⟩ | ⟨hs, hT⟩ | ⟨hs, hT⟩
    · rw [hs] at hn1
      obtain ⟨a, hw⟩ := sgn1 hn1
      cases hw
      obtain ⟨g0, rfl, e0⟩ := mp1 hT
      obtain ⟨x0, rfl⟩ := sgn1 e0
      exact good_Compile0 a x0 hnb
    · rw [hs] at hn1
      obtain ⟨a, hw⟩ := sgn1 hn1
      cases hw
      obtain ⟨g0, g1, rfl, e0, e1⟩ := mp2 hT
      obtain ⟨x0, rfl⟩ := sgn1 e0
      obtain ⟨x1, rfl⟩ := sgn1 e1
      exact good_Compile1 a x0 x1 hnb
    · rw [hs] at hn1
      obtain ⟨a, hw⟩ := sgn1 hn1
      cases hw
      obtain ⟨g0, g1, rfl, e0, e1⟩ := mp2 hT
      obtain ⟨x0, rfl⟩ := sgn1 e0
      obtain ⟨x1, y1, z1, rfl⟩ := sgnN e1
      exact good_Compile2 a x0 x1 y1 z1 hnb
  replace h0 : (w0 == kCompile) = false := beq_eq_false_iff_ne.2 h0
  by_cases h1 : w0 = kArchive
  · subst h1
    rw [rwN_Archive] at hc
    simp only [List.any_cons, List.any_nil, Bool.or_false, Bool.or_eq_true, beq_iff_eq, List.cons.injEq, Prod.mk.injEq, true_and] at hc
    rcases hc with ⟨hs, hT⟩ | ⟨hs, hT⟩
    · rw [hs] at hn1
      obtain ⟨a, hw⟩ := sgn1 hn1
      cases hw
      obtain ⟨g0, rfl, e0⟩ := mp1 hT
      obtain ⟨x0, rfl⟩ := sgn1 e0
      exact good_Archive0 a x0 hnb
    · rw [hs] at hn1
      obtain ⟨a, b, r, hw⟩ := sgnN hn1
      cases hw
      obtain ⟨g0, rfl, e0⟩ := mp1 hT
      obtain ⟨x0, rfl⟩ := sgn1 e0
      exact good_Archive1 a b r x0 hnb
  replace h1 : (w0 == kArchive) = false := beq_eq_false_iff_ne.2 h1
  by_cases h2 : w0 = kShare
  · subst h2
    rw [rwN_Share] at hc
    simp only [List.any_cons, List.any_nil, Bool.or_false, Bool.or_eq_true, beq_iff_eq, List.cons.injEq, Prod.mk.injEq, true_and] at hc
    rcases hc with ⟨hs, hT⟩ | ⟨hs, hT⟩
    · rw [hs] at hn1
      obtain ⟨a, hw⟩ := sgn1 hn1
      cases hw
      obtain ⟨g0, rfl, e0⟩ := mp1 hT
      obtain ⟨x0, rfl⟩ := sgn1 e0
      exact good_Share0 a x0 hnb
    · rw [hs] at hn1
      obtain ⟨a, b, r, hw⟩ := sgnN hn1
      cases hw
      obtain ⟨g0, rfl, e0⟩ := mp1 hT
      obtain ⟨x0, rfl⟩ := sgn1 e0
      exact good_Share1 a b r x0 hnb
  replace h2 : (w0 == kShare) = false := beq_eq_false_iff_ne.2 h2
  by_cases h3 : w0 = kLink
  · subst h3
    rw [rwN_Link] at hc
    simp only [List.any_cons, List.any_nil, Bool.or_false, Bool.or_eq_true, beq_iff_eq, List.cons.injEq, Prod.mk.injEq, true_and] at hc
    rcases hc with ⟨hs, hT⟩ | ⟨hs, hT⟩ | ⟨hs, hT⟩
    · rw [hs] at hn1
      obtain ⟨a, b, r, hw⟩ := sgnN hn1
      cases hw
      obtain ⟨g0, rfl, e0⟩ := mp1 hT
      obtain ⟨x0, rfl⟩ := sgn1 e0
      exact good_Link0 a b r x0 hnb
    · rw [hs] at hn1
      obtain ⟨a, b, r, hw⟩ := sgnN hn1
      cases hw
      obtain ⟨g0, g1, rfl, e0, e1⟩ := mp2 hT
      obtain ⟨x0, rfl⟩ := sgn1 e0
      obtain ⟨x1, rfl⟩ := sgn1 e1
      exact good_Link1 a b r x0 x1 hnb
    · rw [hs] at hn1
      obtain ⟨a, b, r, hw⟩ := sgnN hn1
      cases hw
      obtain ⟨g0, g1, rfl, e0, e1⟩ := mp2 hT
      obtain ⟨x0, y0, z0, rfl⟩ := sgnN e0
      obtain ⟨x1, rfl⟩ := sgn1 e1
      exact good_Link2 a b r x0 y0 z0 x1 hnb
  replace h3 : (w0 == kLink) = false := beq_eq_false_iff_ne.2 h3
  by_cases h4 : w0 = kRun
  · subst h4
    rw [rwN_Run] at hc
    simp only [List.any_cons, List.any_nil, Bool.or_false, Bool.or_eq_true, beq_iff_eq, List.cons.injEq, Prod.mk.injEq, true_and] at hc
    rcases hc with ⟨hs, hT⟩ | ⟨hs, hT⟩ | ⟨hs, hT⟩
    · rw [hs] at hn1
      obtain ⟨a, hw⟩ := sgn1 hn1
      cases hw
      obtain ⟨g0, g1, rfl, e0, e1⟩ := mp2 hT
      obtain ⟨x0, rfl⟩ := sgn1 e0
      obtain ⟨x1, rfl⟩ := sgn1 e1
      exact good_Run0 a x0 x1 hnb
    · rw [hs] at hn1
      obtain ⟨a, hw⟩ := sgn1 hn1
      cases hw
      obtain ⟨g0, g1, g2, rfl, e0, e1, e2⟩ := mp3 hT
      obtain ⟨x0, rfl⟩ := sgn1 e0
      obtain ⟨x1, rfl⟩ := sgn1 e1
      obtain ⟨x2, rfl⟩ := sgn1 e2
      exact good_Run1 a x0 x1 x2 hnb
    · rw [hs] at hn1
      obtain ⟨a, hw⟩ := sgn1 hn1
      cases hw
      obtain ⟨g0, g1, g2, rfl, e0, e1, e2⟩ := mp3 hT
      obtain ⟨x0, y0, z0, rfl⟩ := sgnN e0
      obtain ⟨x1, rfl⟩ := sgn1 e1
      obtain ⟨x2, rfl⟩ := sgn1 e2
      exact good_Run2 a x0 y0 z0 x1 x2 hnb
  replace h4 : (w0 == kRun) = false := beq_eq_false_iff_ne.2 h4
  by_cases h5 : w0 = kPatch
  · subst h5
    rw [rwN_Patch] at hc
    simp only [List.any_cons, List.any_nil, Bool.or_false, Bool.or_eq_true, beq_iff_eq, List.cons.injEq, Prod.mk.injEq, true_and] at hc
    rcases hc with ⟨hs, hT⟩
    · rw [hs] at hn1
      obtain ⟨a, hw⟩ := sgn1 hn1
      cases hw
      obtain ⟨g0, g1, rfl, e0, e1⟩ := mp2 hT
      obtain ⟨x0, rfl⟩ := sgn1 e0
      obtain ⟨x1, rfl⟩ := sgn1 e1
      exact good_Patch0 a x0 x1 hnb
  replace h5 : (w0 == kPatch) = false := beq_eq_false_iff_ne.2 h5
  by_cases h6 : w0 = kCopy
  · subst h6
    rw [rwN_Copy] at hc
    simp only [List.any_cons, List.any_nil, Bool.or_false, Bool.or_eq_true, beq_iff_eq, List.cons.injEq, Prod.mk.injEq, true_and] at hc
    rcases hc with ⟨hs, hT⟩
    · rw [hs] at hn1
      obtain ⟨a, hw⟩ := sgn1 hn1
      cases hw
      obtain ⟨g0, rfl, e0⟩ := mp1 hT
      obtain ⟨x0, rfl⟩ := sgn1 e0
      exact good_Copy0 a x0 hnb
  replace h6 : (w0 == kCopy) = false := beq_eq_false_iff_ne.2 h6
  by_cases h7 : w0 = kInstall
  · subst h7
    rw [rwN_Install] at hc
    simp only [List.any_cons, List.any_nil, Bool.or_false, Bool.or_eq_true, beq_iff_eq, List.cons.injEq, Prod.mk.injEq, true_and] at hc
    rcases hc with ⟨hs, hT⟩
    · rw [hs] at hn1
      obtain ⟨a, hw⟩ := sgn1 hn1
      cases hw
      obtain ⟨g0, rfl, e0⟩ := mp1 hT
      obtain ⟨x0, rfl⟩ := sgn1 e0
      exact good_Install0 a x0 hnb
  replace h7 : (w0 == kInstall) = false := beq_eq_false_iff_ne.2 h7
  exfalso
  unfold rwN at hc
  rw [rows_none h0 h1 h2 h3 h4 h5 h6 h7] at hc
  simp at hc
theorem line_zero (x : Stp) (h : (lineS x).2 = 0) : lineS x = (x, 0) := by
  unfold lineS at h ⊢
  split
  · rename_i hn
    rw [if_pos hn] at h
    split
    · rename_i hk
      rw [if_pos hk] at h
      exact absurd h (by decide)
    · rfl
  · rename_i hn
    rw [if_neg hn] at h
    exact absurd h (by decide)
theorem line_text {s : Bs} {y : Stp} (h : lineR s = (y, 0)) : y.line = 0 ∧ s = textS y ∧ printP y = (textS y, true) := by
  have hne := splitB_ne 32 s
  have hno := splitB_no 32 s
  have hj := split_join 32 s
  unfold lineR at h
  generalize splitB 32 s = ws at *
  split at h
  · cases h
  have hhd : ws.headD [] ∈ ws := by
    cases ws with
    | nil => exact absurd rfl hne
    | cons w r => simp
  have hws : ws.headD [] :: ws.tail = ws := by
    cases ws with
    | nil => exact absurd rfl hne
    | cons w r => rfl
  have hnb : NoBl (gList (ws.headD []) ws.tail) := fun g hg => (gList_all (P := fun w => ∀ b ∈ w, b ≠ 32) (hno _ hhd) (fun w hw => hno _ (List.mem_of_mem_tail hw)) g hg).1
  have hfl := gList_flat (ws.headD []) ws.tail
  rw [hws] at hfl
  obtain ⟨w1, t, ht⟩ := gList_nm ws.tail
  rw [ht] at hnb hfl h
  generalize ws.headD [] = w0 at *
  cases hst : (stepR (⟨w0, w1⟩ :: t)).2 with
  | false =>
    unfold lineP at h
    rw [hst] at h
    cases h
  | true =>
    obtain ⟨X, hX, hg⟩ := shapes hnb hst
    rw [hX] at h
    unfold lineP at h
    simp only [if_true] at h
    have hz := line_zero X (by rw [h])
    rw [hz] at h
    cases h
    rw [hfl] at hg
    have htx : [32] ++ textS y = [32] ++ Lib.join ws [32] := by
      rw [hg.tx]
      cases ws with
      | nil => exact absurd rfl hne
      | cons w r => rw [join_S]
    rw [hj] at htx
    have hs := List.append_cancel_left htx
    refine ⟨hg.ln, hs.symm, ?_⟩
    unfold printP
    rw [hg.wd, hg.ok, hj, hs]
end Go.Ab
namespace Go.Ab
open Go Go.RowKit Go.Proofs Go.Shelf
set_option maxRecDepth 10000
set_option maxHeartbeats 16000000
def checkP (x : Stp) : Int := if !(printP x).2 || (decide (x.line < 0) || decide (x.line ≥ 1024)) then 1 else if (lineR (printP x).1).2 == 0 && sameB x (atL (lineR (printP x).1).1 x.line) then 0 else 1
theorem printP_at (x : Stp) (i : Int) : printP (atL x i) = printP x := rfl
theorem textS_at (x : Stp) (i : Int) : textS (atL x i) = textS x := rfl
theorem check_law (x : Stp) : checkP x = checkR x := by
  unfold checkP checkR
  by_cases h1 : (decide (x.line < 0) || decide (x.line ≥ 1024)) = true
  · rw [h1]
    simp
  · have h1' : (decide (x.line < 0) || decide (x.line ≥ 1024)) = false := by simpa using h1
    rw [h1', Bool.or_false]
    simp only [Bool.false_eq_true, if_false]
    by_cases hR : ((lineR (textS x)).2 == 0 && sameB x (atL (lineR (textS x)).1 x.line)) = true
    · rw [if_pos hR]
      rw [Bool.and_eq_true, beq_iff_eq, sameB_iff] at hR
      obtain ⟨e1, e2⟩ := hR
      obtain ⟨_, _, h5⟩ := line_text (s := textS x) (y := (lineR (textS x)).1) (Prod.ext rfl e1)
      have hp : printP x = (textS x, true) := by
        rw [e2, printP_at, h5, ← textS_at _ x.line, ← e2]
      rw [hp]
      have hR2 : ((lineR (textS x)).2 == 0 && sameB x (atL (lineR (textS x)).1 x.line)) = true := by
        rw [Bool.and_eq_true, beq_iff_eq, sameB_iff]
        exact ⟨e1, e2⟩
      simp only [Bool.not_true, Bool.false_eq_true, if_false]
      rw [if_pos hR2]
    · rw [if_neg hR]
      by_cases hp : (printP x).2 = true
      · rw [hp]
        simp only [Bool.not_true, Bool.false_eq_true, if_false]
        by_cases hP : ((lineR (printP x).1).2 == 0 && sameB x (atL (lineR (printP x).1).1 x.line)) = true
        · exfalso
          apply hR
          rw [Bool.and_eq_true, beq_iff_eq, sameB_iff] at hP ⊢
          obtain ⟨e1, e2⟩ := hP
          obtain ⟨_, h4, _⟩ := line_text (s := (printP x).1) (y := (lineR (printP x).1).1) (Prod.ext rfl e1)
          have ht : textS x = (printP x).1 := by
            conv => lhs; rw [e2, textS_at, ← h4]
          rw [ht]
          exact ⟨e1, e2⟩
        · rw [if_neg hP]
      · have hp' : (printP x).2 = false := by simpa using hp
        rw [hp']
        simp
theorem beq_sy {α : Type} [BEq α] [LawfulBEq α] (a b : α) : (a == b) = (b == a) := by
  rw [Bool.eq_iff_iff]
  simp only [beq_iff_eq]
  exact eq_comm
noncomputable def g_checkPr : List D → Option D := encSpec (fun x : Stp => [eSt x]) (fun x : Stp => PX x) (fun x : Stp => i64 (checkP x))
theorem g_checkPr_eq {x : Stp} (hd : PX x) : g_checkPr [eSt x] = some (i64 (checkP x)) := encSpec_eq (x := x) hd fun y hy => by
    simp only [List.cons.injEq, and_true, true_and, D.str.injEq, D.int.injEq, D.list.injEq, D.bool.injEq, D.agg.injEq, D.clo.injEq, Int.natCast_inj, inj_ie, eSt_ie, eSts_ie] at hy
    rw [hy]
theorem f_checkPr_ok : PureOK Tryd.prog 13 false g_checkPr := by
  have hΓ := Γp f_printP_ok (Γp f_split_ok (Γp f_stepPr_ok (Γp f_equalS_ok (Γn))))
  refine pure_enc (n := 72) (rs := [.tmp 2]) Tryd.func13 (by kernel_rfl) rfl (by kernel_rfl) (by kernel_rfl) ?_
  rintro x hd
  (try dsimp only at hd ⊢)
  refine ⟨fun h => (by cases h), fun k hz0 => ?_⟩
  have e1 := g_printP_eq hd
  have hb1 := (words_bd x).2
  have hb2 := join_le (wordsP x).1.flatten
  have hs : (printP x).1.length ≤ 500000 := by
    show (Lib.join _ _).length ≤ _
    have := hd.i; have := hd.u; have := hd.w; have := hd.o
    omega
  have e2 := g_split_eq (s := (printP x).1) (c := 32) (by omega)
  have e3 := g_stepPr_eq (line := x.line) (ws := splitB 32 (printP x).1) ⟨splitB_ne _ _, by have := splitB_len 32 (printP x).1; omega, fun w hw => by have := splitB_mem_len 32 (printP x).1 w hw; omega⟩
  rw [stepP_line] at e3
  have hok := lineR_ok (s := (printP x).1) (by omega)
  have hxo := hd.ok
  unfold checkP
  clear hb1 hb2 hs hd
  obtain ⟨xl, xk, xi, xu, xw, xo⟩ := x
  generalize printP ⟨xl, xk, xi, xu, xw, xo⟩ = pp at *
  obtain ⟨s, ok⟩ := pp
  dsimp only at *
  generalize splitB 32 s = ws at *
  generalize lineR s = r at *
  obtain ⟨⟨yl, yk, yi, yu, yw, yo⟩, e⟩ := r
  obtain ⟨yi1, yu1, yw1, yo1⟩ := hok
  obtain ⟨xi1, xu1, xw1, xo1⟩ := hxo
  have q1 := g_equalS_eq (a := yi) (b := xi) ⟨yi1.1, xi1.1⟩
  have q2 := g_equalS_eq (a := yu) (b := xu) ⟨yu1.1, xu1.1⟩
  have q3 := g_equalS_eq (a := yw) (b := xw) ⟨yw1.1, xw1.1⟩
  clear yi1 yu1 yw1 yo1 xi1 xu1 xw1 xo1
  unfold moveL at e3
  unfold sameB atL
  dsimp only at e3 ⊢
  rw [beq_sy xk, beq_sy xo, beq_sy xi, beq_sy xu, beq_sy xw, BEq.rfl, Bool.true_and]
  rw [eSt_eq]
  dsimp only
  rw [start_frame (by simp)]; simp only [enumV, go_sem, emptyH]
  generalize hk1 : (yk == xk) = k1 at *
  generalize hk2 : (yo == xo) = k2 at *
  have hk1' : (yk != xk) = !k1 := by rw [← hk1]; rfl
  have hk2' : (yo != xo) = !k2 := by rw [← hk2]; rfl
  generalize (yi == xi) = k3 at *
  generalize (yu == xu) = k4 at *
  generalize (yw == xw) = k5 at *
  generalize hl1 : decide (xl < 0) = l1 at *
  generalize hl2 : decide (xl ≥ 1024) = l2 at *
  cases ok
  · repeat (first
    | (apply axJ; (focus ((with_reducible constructor) <;> rfl)))
    | (apply awT mixedOK hΓ (by kernel_rfl); (simp (disch := omega) only [go_sem, ↓reduceIte, dk, ↓lk, e1, hl1, hl2] <;> with_reducible rfl))
    | ((first | apply awR hΓ | apply awG | apply awH mixedOK hΓ rfl (by kernel_rfl) | apply ovE rfl); (simp (disch := omega) only [go_sem, ↓reduceIte, dk, ↓lk, e1, hl1, hl2] <;> with_reducible rfl); exact trivial)
    | rfl)
    try rfl
  cases l1
  rotate_left
  · repeat (first
    | (apply axJ; (focus ((with_reducible constructor) <;> rfl)))
    | (apply awT mixedOK hΓ (by kernel_rfl); (simp (disch := omega) only [go_sem, ↓reduceIte, dk, ↓lk, e1, hl1, hl2] <;> with_reducible rfl))
    | ((first | apply awR hΓ | apply awG | apply awH mixedOK hΓ rfl (by kernel_rfl) | apply ovE rfl); (simp (disch := omega) only [go_sem, ↓reduceIte, dk, ↓lk, e1, hl1, hl2] <;> with_reducible rfl); exact trivial)
    | rfl)
    try rfl
  cases l2
  rotate_left
  · repeat (first
    | (apply axJ; (focus ((with_reducible constructor) <;> rfl)))
    | (apply awT mixedOK hΓ (by kernel_rfl); (simp (disch := omega) only [go_sem, ↓reduceIte, dk, ↓lk, e1, hl1, hl2] <;> with_reducible rfl))
    | ((first | apply awR hΓ | apply awG | apply awH mixedOK hΓ rfl (by kernel_rfl) | apply ovE rfl); (simp (disch := omega) only [go_sem, ↓reduceIte, dk, ↓lk, e1, hl1, hl2] <;> with_reducible rfl); exact trivial)
    | rfl)
    try rfl
  generalize hz : (e == 0) = z at *
  cases z
  · simp only [Bool.false_eq_true, if_false] at e3
    replace e3 : g_stepPr [.int .i64 xl, .list (ws.map .str)] = some (.tup [.agg [.int .i64 0, .int .i64 0, .list [], .list [], .list [], .str []], .int .i64 e]) := e3
    have hz2 : (e != 0) = true := by simp [bne, hz]
    repeat (first
      | (apply axJ; (focus ((with_reducible constructor) <;> rfl)))
      | (apply awT mixedOK hΓ (by kernel_rfl); (simp (disch := omega) only [go_sem, ↓reduceIte, dk, ↓lk, e1, hl1, hl2] <;> with_reducible rfl))
      | ((first | apply awR hΓ | apply awG | apply awH mixedOK hΓ rfl (by kernel_rfl) | apply ovE rfl); (simp (disch := omega) only [go_sem, ↓reduceIte, dk, ↓lk, e1, hl1, hl2] <;> with_reducible rfl); exact trivial)
      | rfl)
    (apply awp_lane3 (nst := false) (nst' := false) [false, false, false, false, false, false, false, false, true, true] mixedOK hΓ (n1 := 10) (by kernel_rfl) (by kernel_rfl); (focus (dsimp only [List.take_succ_cons, List.take_zero, Array.toList]; (repeat (first | (apply lane3_loud; (focus rfl); (focus rfl); (simp (disch := omega) only [go_sem, ↓reduceIte, dk, ↓lk, e1, e2, e3, look_upd] <;> with_reducible rfl); (focus (first | (simp (disch := omega) only [go_sem, ↓reduceIte, dk, ↓lk, e1, e2, e3, look_upd]; done) | (simp (disch := omega) only [go_sem, ↓reduceIte, dk, ↓lk, e1, e2, e3, look_upd]; omega)))) | (apply lane3_quiet; (simp (disch := omega) only [go_sem, ↓reduceIte, dk, ↓lk, e1, e2, e3, look_upd] <;> with_reducible rfl)))); exact lane3_nil)); (focus ((repeat' (first | exact True.intro | refine And.intro ?_ ?_)); all_goals (first | (left; decide) | (left; rfl) | (right; simp (disch := omega) only [go_sem, ↓reduceIte, dk, ↓lk, e1, e2, e3, look_upd]; try with_reducible rfl)))); (simp (disch := omega) only [go_sem, ↓reduceIte, dk, ↓lk, e1, e2, e3, look_upd] <;> with_reducible rfl))
    repeat (first
      | (apply axJ; (focus ((with_reducible constructor) <;> rfl)))
      | (apply awT mixedOK hΓ (by kernel_rfl); (simp (disch := omega) only [go_sem, ↓reduceIte, dk, ↓lk, hz2, hz] <;> with_reducible rfl))
      | ((first | apply awR hΓ | apply awG | apply awH mixedOK hΓ rfl (by kernel_rfl) | apply ovE rfl); (simp (disch := omega) only [go_sem, ↓reduceIte, dk, ↓lk, hz2, hz] <;> with_reducible rfl); exact trivial)
      | rfl)
    try rfl
  · simp only [if_true] at e3
    replace e3 : g_stepPr [.int .i64 xl, .list (ws.map .str)] = some (.tup [.agg [.int .i64 xl, .int .i64 yk, .list (yi.map .str), .list (yu.map .str), .list (yw.map .str), .str yo], .int .i64 0]) := e3
    repeat (first
      | (apply axJ; (focus ((with_reducible constructor) <;> rfl)))
      | (apply awT mixedOK hΓ (by kernel_rfl); (simp (disch := omega) only [go_sem, ↓reduceIte, dk, ↓lk, e1, hl1, hl2] <;> with_reducible rfl))
      | ((first | apply awR hΓ | apply awG | apply awH mixedOK hΓ rfl (by kernel_rfl) | apply ovE rfl); (simp (disch := omega) only [go_sem, ↓reduceIte, dk, ↓lk, e1, hl1, hl2] <;> with_reducible rfl); exact trivial)
      | rfl)
    (apply awp_lane3 (nst := false) (nst' := false) [false, false, false, false, false, false, false, false, true, true] mixedOK hΓ (n1 := 10) (by kernel_rfl) (by kernel_rfl); (focus (dsimp only [List.take_succ_cons, List.take_zero, Array.toList]; (repeat (first | (apply lane3_loud; (focus rfl); (focus rfl); (simp (disch := omega) only [go_sem, ↓reduceIte, dk, ↓lk, e1, e2, e3, look_upd] <;> with_reducible rfl); (focus (first | (simp (disch := omega) only [go_sem, ↓reduceIte, dk, ↓lk, e1, e2, e3, look_upd]; done) | (simp (disch := omega) only [go_sem, ↓reduceIte, dk, ↓lk, e1, e2, e3, look_upd]; omega)))) | (apply lane3_quiet; (simp (disch := omega) only [go_sem, ↓reduceIte, dk, ↓lk, e1, e2, e3, look_upd] <;> with_reducible rfl)))); exact lane3_nil)); (focus ((repeat' (first | exact True.intro | refine And.intro ?_ ?_)); all_goals (first | (left; decide) | (left; rfl) | (right; simp (disch := omega) only [go_sem, ↓reduceIte, dk, ↓lk, e1, e2, e3, look_upd]; try with_reducible rfl)))); (simp (disch := omega) only [go_sem, ↓reduceIte, dk, ↓lk, e1, e2, e3, look_upd] <;> with_reducible rfl))
    (cases k1; (focus ((repeat (first | (apply axJ; (focus ((with_reducible constructor) <;> rfl))) | (apply awT mixedOK hΓ (by kernel_rfl); (simp (disch := omega) only [go_sem, ↓reduceIte, dk, ↓lk, Int.reduceBEq, Int.reduceBNe, Bool.true_bne, Bool.false_bne, Bool.not_true, Bool.not_false, hk1, hk1', hk2, hk2', q1, q2, q3] <;> with_reducible rfl)) | ((first | apply awR hΓ | apply awG | apply awH mixedOK hΓ rfl (by kernel_rfl) | apply ovE rfl); (simp (disch := omega) only [go_sem, ↓reduceIte, dk, ↓lk, Int.reduceBEq, Int.reduceBNe, Bool.true_bne, Bool.false_bne, Bool.not_true, Bool.not_false, hk1, hk1', hk2, hk2', q1, q2, q3] <;> with_reducible rfl); exact trivial) | rfl)); (first | done | rfl))); (focus (cases k2; (focus ((repeat (first | (apply axJ; (focus ((with_reducible constructor) <;> rfl))) | (apply awT mixedOK hΓ (by kernel_rfl); (simp (disch := omega) only [go_sem, ↓reduceIte, dk, ↓lk, Int.reduceBEq, Int.reduceBNe, Bool.true_bne, Bool.false_bne, Bool.not_true, Bool.not_false, hk1, hk1', hk2, hk2', q1, q2, q3] <;> with_reducible rfl)) | ((first | apply awR hΓ | apply awG | apply awH mixedOK hΓ rfl (by kernel_rfl) | apply ovE rfl); (simp (disch := omega) only [go_sem, ↓reduceIte, dk, ↓lk, Int.reduceBEq, Int.reduceBNe, Bool.true_bne, Bool.false_bne, Bool.not_true, Bool.not_false, hk1, hk1', hk2, hk2', q1, q2, q3] <;> with_reducible rfl); exact trivial) | rfl)); (first | done | rfl))); (focus (cases k3; (focus ((repeat (first | (apply axJ; (focus ((with_reducible constructor) <;> rfl))) | (apply awT mixedOK hΓ (by kernel_rfl); (simp (disch := omega) only [go_sem, ↓reduceIte, dk, ↓lk, Int.reduceBEq, Int.reduceBNe, Bool.true_bne, Bool.false_bne, Bool.not_true, Bool.not_false, hk1, hk1', hk2, hk2', q1, q2, q3] <;> with_reducible rfl)) | ((first | apply awR hΓ | apply awG | apply awH mixedOK hΓ rfl (by kernel_rfl) | apply ovE rfl); (simp (disch := omega) only [go_sem, ↓reduceIte, dk, ↓lk, Int.reduceBEq, Int.reduceBNe, Bool.true_bne, Bool.false_bne, Bool.not_true, Bool.not_false, hk1, hk1', hk2, hk2', q1, q2, q3] <;> with_reducible rfl); exact trivial) | rfl)); (first | done | rfl))); (focus (cases k4; (focus ((repeat (first | (apply axJ; (focus ((with_reducible constructor) <;> rfl))) | (apply awT mixedOK hΓ (by kernel_rfl); (simp (disch := omega) only [go_sem, ↓reduceIte, dk, ↓lk, Int.reduceBEq, Int.reduceBNe, Bool.true_bne, Bool.false_bne, Bool.not_true, Bool.not_false, hk1, hk1', hk2, hk2', q1, q2, q3] <;> with_reducible rfl)) | ((first | apply awR hΓ | apply awG | apply awH mixedOK hΓ rfl (by kernel_rfl) | apply ovE rfl); (simp (disch := omega) only [go_sem, ↓reduceIte, dk, ↓lk, Int.reduceBEq, Int.reduceBNe, Bool.true_bne, Bool.false_bne, Bool.not_true, Bool.not_false, hk1, hk1', hk2, hk2', q1, q2, q3] <;> with_reducible rfl); exact trivial) | rfl)); (first | done | rfl))); (focus (cases k5; (focus ((repeat (first | (apply axJ; (focus ((with_reducible constructor) <;> rfl))) | (apply awT mixedOK hΓ (by kernel_rfl); (simp (disch := omega) only [go_sem, ↓reduceIte, dk, ↓lk, Int.reduceBEq, Int.reduceBNe, Bool.true_bne, Bool.false_bne, Bool.not_true, Bool.not_false, hk1, hk1', hk2, hk2', q1, q2, q3] <;> with_reducible rfl)) | ((first | apply awR hΓ | apply awG | apply awH mixedOK hΓ rfl (by kernel_rfl) | apply ovE rfl); (simp (disch := omega) only [go_sem, ↓reduceIte, dk, ↓lk, Int.reduceBEq, Int.reduceBNe, Bool.true_bne, Bool.false_bne, Bool.not_true, Bool.not_false, hk1, hk1', hk2, hk2', q1, q2, q3] <;> with_reducible rfl); exact trivial) | rfl)); (first | done | rfl))); (focus ((repeat (first | (apply axJ; (focus ((with_reducible constructor) <;> rfl))) | (apply awT mixedOK hΓ (by kernel_rfl); (simp (disch := omega) only [go_sem, ↓reduceIte, dk, ↓lk, Int.reduceBEq, Int.reduceBNe, Bool.true_bne, Bool.false_bne, Bool.not_true, Bool.not_false, hk1, hk1', hk2, hk2', q1, q2, q3] <;> with_reducible rfl)) | ((first | apply awR hΓ | apply awG | apply awH mixedOK hΓ rfl (by kernel_rfl) | apply ovE rfl); (simp (disch := omega) only [go_sem, ↓reduceIte, dk, ↓lk, Int.reduceBEq, Int.reduceBNe, Bool.true_bne, Bool.false_bne, Bool.not_true, Bool.not_false, hk1, hk1', hk2, hk2', q1, q2, q3] <;> with_reducible rfl); exact trivial) | rfl)); (first | done | rfl))))))))))))
end Go.Ab
