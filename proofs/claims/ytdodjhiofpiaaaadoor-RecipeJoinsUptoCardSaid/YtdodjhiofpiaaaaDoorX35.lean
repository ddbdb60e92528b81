/-
  One text of the proof (own work): contracts of functions of the program, by the abstract machine.
-/
import Derived.Test.YtdodjhiofpiaaaaDoorX30
set_option linter.unusedVariables false
set_option linter.unusedSimpArgs false
namespace Go.Ab
open Go Go.RowKit Go.Proofs Go.Shelf
set_option maxRecDepth 10000
set_option maxHeartbeats 8000000
theorem stepR_snd (l : List Gp) : (stepR l).2 = (cc1 (formS l) || (cc2 (formS l) || (cc3 (formS l) || (cc4 (formS l) || (cc5 (formS l) || (cc6 (formS l) || (cc7 (formS l) || (cc8 (formS l) || (cc9 (formS l) || (cc10 (formS l) || cc11 (formS l))))))))))) := by
  unfold stepR stepG
  generalize cc1 (formS l) = c1
  generalize cc2 (formS l) = c2
  generalize cc3 (formS l) = c3
  generalize cc4 (formS l) = c4
  generalize cc5 (formS l) = c5
  generalize cc6 (formS l) = c6
  generalize cc7 (formS l) = c7
  generalize cc8 (formS l) = c8
  generalize cc9 (formS l) = c9
  generalize cc10 (formS l) = c10
  generalize cc11 (formS l) = c11
  cases c1
  rotate_left
  · rfl
  cases c2
  rotate_left
  · rfl
  cases c3
  rotate_left
  · rfl
  cases c4
  rotate_left
  · rfl
  cases c5
  rotate_left
  · rfl
  cases c6
  rotate_left
  · rfl
  cases c7
  rotate_left
  · rfl
  cases c8
  rotate_left
  · rfl
  cases c9
  rotate_left
  · rfl
  cases c10
  rotate_left
  · rfl
  cases c11 <;> rfl
theorem prod_beq' (a b : Bs) (c d : UInt8) : ((a, c) == (b, d)) = (a == b && c == d) := rfl
theorem rwN_Compile : rwN kCompile = [([], 49) :: [(kTo, 49)], ([], 49) :: [(kTo, 49), (kWith, 49)], ([], 49) :: [(kTo, 49), (kWith, 43)]] := by decide
theorem rwN_Archive : rwN kArchive = [([], 49) :: [(kTo, 49)], ([], 43) :: [(kTo, 49)]] := by decide
theorem rwN_Share : rwN kShare = [([], 49) :: [(kTo, 49)], ([], 43) :: [(kTo, 49)]] := by decide
theorem rwN_Link : rwN kLink = [([], 43) :: [(kTo, 49)], ([], 43) :: [(kUsing, 49), (kTo, 49)], ([], 43) :: [(kUsing, 43), (kTo, 49)]] := by decide
theorem rwN_Run : rwN kRun = [([], 49) :: [(kOn, 49), (kTo, 49)], ([], 49) :: [(kUsing, 49), (kOn, 49), (kTo, 49)], ([], 49) :: [(kUsing, 43), (kOn, 49), (kTo, 49)]] := by decide
theorem rwN_Patch : rwN kPatch = [([], 49) :: [(kWith, 49), (kTo, 49)]] := by decide
theorem rwN_Copy : rwN kCopy = [([], 49) :: [(kTo, 49)]] := by decide
theorem rwN_Install : rwN kInstall = [([], 49) :: [(kAs, 49)]] := by decide
theorem rows_none {w : Bs} (h0 : (w == kCompile) = false) (h1 : (w == kArchive) = false) (h2 : (w == kShare) = false) (h3 : (w == kLink) = false) (h4 : (w == kRun) = false) (h5 : (w == kPatch) = false) (h6 : (w == kCopy) = false) (h7 : (w == kInstall) = false) : rowsB w = ([], 0) := by
  unfold kCompile kArchive kShare kLink kRun kPatch kCopy kInstall at *
  unfold rowsB
  rw [h0, if_neg (by decide), h1, if_neg (by decide), h2, if_neg (by decide), h3, if_neg (by decide), h4, if_neg (by decide), h5, if_neg (by decide), h6, if_neg (by decide), h7, if_neg (by decide)]
theorem any_snd {w0 : Bs} {w1 : List Bs} {t : List Gp} (hb : NoBl (⟨w0, w1⟩ :: t)) : (rowsB w0).1.any (fun r => fitsB (⟨[], w1⟩ :: t) r) = (stepR (⟨w0, w1⟩ :: t)).2 := by
  obtain ⟨q1, q2, q3, q4, q5, q6, q7, q8, q9, q10, q11⟩ := cc_dd hb
  rw [any_fits, stepR_snd, q1, q2, q3, q4, q5, q6, q7, q8, q9, q10, q11]
  unfold dd1 dd2 dd3 dd4 dd5 dd6 dd7 dd8 dd9 dd10 dd11
  rw [List.map_cons, List.map_cons, show nsg ⟨w0, w1⟩ = (w0, signB ⟨w0, w1⟩) from rfl, show nsg ⟨[], w1⟩ = ([], signB ⟨w0, w1⟩) from rfl]
  generalize signB ⟨w0, w1⟩ = s0
  generalize t.map nsg = T
  clear q1 q2 q3 q4 q5 q6 q7 q8 q9 q10 q11 hb
  by_cases h0 : w0 = kCompile
  · subst h0
    rw [rwN_Compile]
    simp only [List.any_cons, List.any_nil, cons_beq', prod_beq', show (([] : Bs) == []) = true from rfl, show (kCompile == kCompile) = true by decide, show (kCompile == kArchive) = false by decide, show (kCompile == kShare) = false by decide, show (kCompile == kLink) = false by decide, show (kCompile == kRun) = false by decide, show (kCompile == kPatch) = false by decide, show (kCompile == kCopy) = false by decide, show (kCompile == kInstall) = false by decide, Bool.true_and, Bool.false_and, Bool.or_false, Bool.false_or, Bool.or_assoc]
  replace h0 : (w0 == kCompile) = false := beq_eq_false_iff_ne.2 h0
  by_cases h1 : w0 = kArchive
  · subst h1
    rw [rwN_Archive]
    simp only [List.any_cons, List.any_nil, cons_beq', prod_beq', show (([] : Bs) == []) = true from rfl, show (kArchive == kArchive) = true by decide, show (kArchive == kCompile) = false by decide, show (kArchive == kShare) = false by decide, show (kArchive == kLink) = false by decide, show (kArchive == kRun) = false by decide, show (kArchive == kPatch) = false by decide, show (kArchive == kCopy) = false by decide, show (kArchive == kInstall) = false by decide, Bool.true_and, Bool.false_and, Bool.or_false, Bool.false_or, Bool.or_assoc]
  replace h1 : (w0 == kArchive) = false := beq_eq_false_iff_ne.2 h1
  by_cases h2 : w0 = kShare
  · subst h2
    rw [rwN_Share]
    simp only [List.any_cons, List.any_nil, cons_beq', prod_beq', show (([] : Bs) == []) = true from rfl, show (kShare == kShare) = true by decide, show (kShare == kCompile) = false by decide, show (kShare == kArchive) = false by decide, show (kShare == kLink) = false by decide, show (kShare == kRun) = false by decide, show (kShare == kPatch) = false by decide, show (kShare == kCopy) = false by decide, show (kShare == kInstall) = false by decide, Bool.true_and, Bool.false_and, Bool.or_false, Bool.false_or, Bool.or_assoc]
  replace h2 : (w0 == kShare) = false := beq_eq_false_iff_ne.2 h2
  by_cases h3 : w0 = kLink
  · subst h3
    rw [rwN_Link]
    simp only [List.any_cons, List.any_nil, cons_beq', prod_beq', show (([] : Bs) == []) = true from rfl, show (kLink == kLink) = true by decide, show (kLink == kCompile) = false by decide, show (kLink == kArchive) = false by decide, show (kLink == kShare) = false by decide, show (kLink == kRun) = false by decide, show (kLink == kPatch) = false by decide, show (kLink == kCopy) = false by decide, show (kLink == kInstall) = false by decide, Bool.true_and, Bool.false_and, Bool.or_false, Bool.false_or, Bool.or_assoc]
  replace h3 : (w0 == kLink) = false := beq_eq_false_iff_ne.2 h3
  by_cases h4 : w0 = kRun
  · subst h4
    rw [rwN_Run]
    simp only [List.any_cons, List.any_nil, cons_beq', prod_beq', show (([] : Bs) == []) = true from rfl, show (kRun == kRun) = true by decide, show (kRun == kCompile) = false by decide, show (kRun == kArchive) = false by decide, show (kRun == kShare) = false by decide, show (kRun == kLink) = false by decide, show (kRun == kPatch) = false by decide, show (kRun == kCopy) = false by decide, show (kRun == kInstall) = false by decide, Bool.true_and, Bool.false_and, Bool.or_false, Bool.false_or, Bool.or_assoc]
  replace h4 : (w0 == kRun) = false := beq_eq_false_iff_ne.2 h4
  by_cases h5 : w0 = kPatch
  · subst h5
    rw [rwN_Patch]
    simp only [List.any_cons, List.any_nil, cons_beq', prod_beq', show (([] : Bs) == []) = true from rfl, show (kPatch == kPatch) = true by decide, show (kPatch == kCompile) = false by decide, show (kPatch == kArchive) = false by decide, show (kPatch == kShare) = false by decide, show (kPatch == kLink) = false by decide, show (kPatch == kRun) = false by decide, show (kPatch == kCopy) = false by decide, show (kPatch == kInstall) = false by decide, Bool.true_and, Bool.false_and, Bool.or_false, Bool.false_or, Bool.or_assoc]
  replace h5 : (w0 == kPatch) = false := beq_eq_false_iff_ne.2 h5
  by_cases h6 : w0 = kCopy
  · subst h6
    rw [rwN_Copy]
    simp only [List.any_cons, List.any_nil, cons_beq', prod_beq', show (([] : Bs) == []) = true from rfl, show (kCopy == kCopy) = true by decide, show (kCopy == kCompile) = false by decide, show (kCopy == kArchive) = false by decide, show (kCopy == kShare) = false by decide, show (kCopy == kLink) = false by decide, show (kCopy == kRun) = false by decide, show (kCopy == kPatch) = false by decide, show (kCopy == kInstall) = false by decide, Bool.true_and, Bool.false_and, Bool.or_false, Bool.false_or, Bool.or_assoc]
  replace h6 : (w0 == kCopy) = false := beq_eq_false_iff_ne.2 h6
  by_cases h7 : w0 = kInstall
  · subst h7
    rw [rwN_Install]
    simp only [List.any_cons, List.any_nil, cons_beq', prod_beq', show (([] : Bs) == []) = true from rfl, show (kInstall == kInstall) = true by decide, show (kInstall == kCompile) = false by decide, show (kInstall == kArchive) = false by decide, show (kInstall == kShare) = false by decide, show (kInstall == kLink) = false by decide, show (kInstall == kRun) = false by decide, show (kInstall == kPatch) = false by decide, show (kInstall == kCopy) = false by decide, Bool.true_and, Bool.false_and, Bool.or_false, Bool.false_or, Bool.or_assoc]
  replace h7 : (w0 == kInstall) = false := beq_eq_false_iff_ne.2 h7
  unfold rwN
  rw [rows_none h0 h1 h2 h3 h4 h5 h6 h7]
  simp only [List.flatMap_nil, List.any_nil, cons_beq', prod_beq', h0, h1, h2, h3, h4, h5, h6, h7, Bool.false_and, Bool.or_false]
theorem law_of {i : Int} {w0 : Bs} {kind : Int} {gs : List Gp} {p : Stp × Bool} {X : Stp} (hp : p = (X, true)) (hk : (rowsB w0).2 = kind) (h1 : gs.any (fun g => !nmG kind g) = !namedB X) (h2 : gs.foldl (stF kind) ⟨i, kind, [], [], [], []⟩ = atL X i) (h3 : X.kind = 1 ∨ dupB [] X.wds = false) : stpE i (rowsB w0).2 gs = moveL i (lineP p) := by
  rw [hp, hk, fin_law h1 h2 h3]
  rfl
theorem any2 (a b : Gp) (f : Gp → Bool) : [a, b].any f = (f a || f b) := by simp
theorem any3 (a b c : Gp) (f : Gp → Bool) : [a, b, c].any f = (f a || (f b || f c)) := by simp
theorem any4 (a b c d : Gp) (f : Gp → Bool) : [a, b, c, d].any f = (f a || (f b || (f c || f d))) := by simp
theorem law_Compile0 {i : Int} (a : Bs) (x0 : Bs) (hb : NoBl (⟨kCompile, [a]⟩ :: [⟨kTo, [x0]⟩])) : stpE i (rowsB kCompile).2 (⟨[], [a]⟩ :: [⟨kTo, [x0]⟩]) = moveL i (lineP (stepR (⟨kCompile, [a]⟩ :: [⟨kTo, [x0]⟩]))) := by
  refine law_of (X := ⟨0, 1, [a], [], [], x0⟩) (kind := 1) ?_ (by decide) ?_ rfl (.inl rfl)
  · obtain ⟨q1, q2, q3, q4, q5, q6, q7, q8, q9, q10, q11⟩ := cc_dd hb
    unfold stepR stepG
    rw [q1, q2, q3, q4, q5, q6, q7, q8, q9, q10, q11]
    rfl
  · rw [any2, nmG_nil (by decide), nmG_to]
    unfold namedB
    dsimp only
    simp only [List.all_cons, List.all_nil, Bool.and_true, Bool.true_and]
    generalize refB a = v0
    generalize (pathE x0 == 0) = v1
    cases v0 <;> cases v1 <;> rfl
theorem law_Compile1 {i : Int} (a : Bs) (x0 : Bs) (x1 : Bs) (hb : NoBl (⟨kCompile, [a]⟩ :: [⟨kTo, [x0]⟩, ⟨kWith, [x1]⟩])) : stpE i (rowsB kCompile).2 (⟨[], [a]⟩ :: [⟨kTo, [x0]⟩, ⟨kWith, [x1]⟩]) = moveL i (lineP (stepR (⟨kCompile, [a]⟩ :: [⟨kTo, [x0]⟩, ⟨kWith, [x1]⟩]))) := by
  refine law_of (X := ⟨0, 1, [a], [], [x1], x0⟩) (kind := 1) ?_ (by decide) ?_ rfl (.inl rfl)
  · obtain ⟨q1, q2, q3, q4, q5, q6, q7, q8, q9, q10, q11⟩ := cc_dd hb
    unfold stepR stepG
    rw [q1, q2, q3, q4, q5, q6, q7, q8, q9, q10, q11]
    rfl
  · rw [any3, nmG_nil (by decide), nmG_to, nmG_with1]
    unfold namedB
    dsimp only
    simp only [List.all_cons, List.all_nil, Bool.and_true, Bool.true_and]
    generalize refB a = v0
    generalize idB x1 = v1
    generalize (pathE x0 == 0) = v2
    cases v0 <;> cases v1 <;> cases v2 <;> rfl
theorem law_Compile2 {i : Int} (a : Bs) (x0 : Bs) (x1 y1 : Bs) (z1 : List Bs) (hb : NoBl (⟨kCompile, [a]⟩ :: [⟨kTo, [x0]⟩, ⟨kWith, x1 :: y1 :: z1⟩])) : stpE i (rowsB kCompile).2 (⟨[], [a]⟩ :: [⟨kTo, [x0]⟩, ⟨kWith, x1 :: y1 :: z1⟩]) = moveL i (lineP (stepR (⟨kCompile, [a]⟩ :: [⟨kTo, [x0]⟩, ⟨kWith, x1 :: y1 :: z1⟩]))) := by
  refine law_of (X := ⟨0, 1, [a], [], x1 :: y1 :: z1, x0⟩) (kind := 1) ?_ (by decide) ?_ rfl (.inl rfl)
  · obtain ⟨q1, q2, q3, q4, q5, q6, q7, q8, q9, q10, q11⟩ := cc_dd hb
    unfold stepR stepG
    rw [q1, q2, q3, q4, q5, q6, q7, q8, q9, q10, q11]
    rfl
  · rw [any3, nmG_nil (by decide), nmG_to, nmG_with1]
    unfold namedB
    dsimp only
    simp only [List.all_cons, List.all_nil, Bool.and_true, Bool.true_and]
    generalize refB a = v0
    generalize idB x1 = v1
    generalize idB y1 = v2
    generalize z1.all idB = v3
    generalize (pathE x0 == 0) = v4
    cases v0 <;> cases v1 <;> cases v2 <;> cases v3 <;> cases v4 <;> rfl
theorem law_Archive0 {i : Int} (a : Bs) (x0 : Bs) (hb : NoBl (⟨kArchive, [a]⟩ :: [⟨kTo, [x0]⟩])) : stpE i (rowsB kArchive).2 (⟨[], [a]⟩ :: [⟨kTo, [x0]⟩]) = moveL i (lineP (stepR (⟨kArchive, [a]⟩ :: [⟨kTo, [x0]⟩]))) := by
  refine law_of (X := ⟨0, 2, [a], [], [], x0⟩) (kind := 2) ?_ (by decide) ?_ rfl (.inr rfl)
  · obtain ⟨q1, q2, q3, q4, q5, q6, q7, q8, q9, q10, q11⟩ := cc_dd hb
    unfold stepR stepG
    rw [q1, q2, q3, q4, q5, q6, q7, q8, q9, q10, q11]
    rfl
  · rw [any2, nmG_nil (by decide), nmG_to]
    unfold namedB
    dsimp only
    simp only [List.all_cons, List.all_nil, Bool.and_true, Bool.true_and]
    generalize refB a = v0
    generalize (pathE x0 == 0) = v1
    cases v0 <;> cases v1 <;> rfl
theorem law_Archive1 {i : Int} (a b : Bs) (r : List Bs) (x0 : Bs) (hb : NoBl (⟨kArchive, a :: b :: r⟩ :: [⟨kTo, [x0]⟩])) : stpE i (rowsB kArchive).2 (⟨[], a :: b :: r⟩ :: [⟨kTo, [x0]⟩]) = moveL i (lineP (stepR (⟨kArchive, a :: b :: r⟩ :: [⟨kTo, [x0]⟩]))) := by
  refine law_of (X := ⟨0, 2, a :: b :: r, [], [], x0⟩) (kind := 2) ?_ (by decide) ?_ rfl (.inr rfl)
  · obtain ⟨q1, q2, q3, q4, q5, q6, q7, q8, q9, q10, q11⟩ := cc_dd hb
    unfold stepR stepG
    rw [q1, q2, q3, q4, q5, q6, q7, q8, q9, q10, q11]
    rfl
  · rw [any2, nmG_nil (by decide), nmG_to]
    unfold namedB
    dsimp only
    simp only [List.all_cons, List.all_nil, Bool.and_true, Bool.true_and]
    generalize refB a = v0
    generalize refB b = v1
    generalize r.all refB = v2
    generalize (pathE x0 == 0) = v3
    cases v0 <;> cases v1 <;> cases v2 <;> cases v3 <;> rfl
theorem law_Share0 {i : Int} (a : Bs) (x0 : Bs) (hb : NoBl (⟨kShare, [a]⟩ :: [⟨kTo, [x0]⟩])) : stpE i (rowsB kShare).2 (⟨[], [a]⟩ :: [⟨kTo, [x0]⟩]) = moveL i (lineP (stepR (⟨kShare, [a]⟩ :: [⟨kTo, [x0]⟩]))) := by
  refine law_of (X := ⟨0, 3, [a], [], [], x0⟩) (kind := 3) ?_ (by decide) ?_ rfl (.inr rfl)
  · obtain ⟨q1, q2, q3, q4, q5, q6, q7, q8, q9, q10, q11⟩ := cc_dd hb
    unfold stepR stepG
    rw [q1, q2, q3, q4, q5, q6, q7, q8, q9, q10, q11]
    rfl
  · rw [any2, nmG_nil (by decide), nmG_to]
    unfold namedB
    dsimp only
    simp only [List.all_cons, List.all_nil, Bool.and_true, Bool.true_and]
    generalize refB a = v0
    generalize (pathE x0 == 0) = v1
    cases v0 <;> cases v1 <;> rfl
theorem law_Share1 {i : Int} (a b : Bs) (r : List Bs) (x0 : Bs) (hb : NoBl (⟨kShare, a :: b :: r⟩ :: [⟨kTo, [x0]⟩])) : stpE i (rowsB kShare).2 (⟨[], a :: b :: r⟩ :: [⟨kTo, [x0]⟩]) = moveL i (lineP (stepR (⟨kShare, a :: b :: r⟩ :: [⟨kTo, [x0]⟩]))) := by
  refine law_of (X := ⟨0, 3, a :: b :: r, [], [], x0⟩) (kind := 3) ?_ (by decide) ?_ rfl (.inr rfl)
  · obtain ⟨q1, q2, q3, q4, q5, q6, q7, q8, q9, q10, q11⟩ := cc_dd hb
    unfold stepR stepG
    rw [q1, q2, q3, q4, q5, q6, q7, q8, q9, q10, q11]
    rfl
  · rw [any2, nmG_nil (by decide), nmG_to]
    unfold namedB
    dsimp only
    simp only [List.all_cons, List.all_nil, Bool.and_true, Bool.true_and]
    generalize refB a = v0
    generalize refB b = v1
    generalize r.all refB = v2
    generalize (pathE x0 == 0) = v3
    cases v0 <;> cases v1 <;> cases v2 <;> cases v3 <;> rfl
theorem law_Link0 {i : Int} (a b : Bs) (r : List Bs) (x0 : Bs) (hb : NoBl (⟨kLink, a :: b :: r⟩ :: [⟨kTo, [x0]⟩])) : stpE i (rowsB kLink).2 (⟨[], a :: b :: r⟩ :: [⟨kTo, [x0]⟩]) = moveL i (lineP (stepR (⟨kLink, a :: b :: r⟩ :: [⟨kTo, [x0]⟩]))) := by
  refine law_of (X := ⟨0, 4, b :: r, [], [a], x0⟩) (kind := 4) ?_ (by decide) ?_ rfl (.inr rfl)
  · obtain ⟨q1, q2, q3, q4, q5, q6, q7, q8, q9, q10, q11⟩ := cc_dd hb
    unfold stepR stepG
    rw [q1, q2, q3, q4, q5, q6, q7, q8, q9, q10, q11]
    rfl
  · rw [any2, nmG_nil4, nmG_to]
    unfold namedB
    dsimp only
    simp only [List.all_cons, List.all_nil, Bool.and_true, Bool.true_and]
    generalize refB b = v0
    generalize r.all refB = v1
    generalize idB a = v2
    generalize (pathE x0 == 0) = v3
    cases v0 <;> cases v1 <;> cases v2 <;> cases v3 <;> rfl
theorem law_Link1 {i : Int} (a b : Bs) (r : List Bs) (x0 : Bs) (x1 : Bs) (hb : NoBl (⟨kLink, a :: b :: r⟩ :: [⟨kUsing, [x0]⟩, ⟨kTo, [x1]⟩])) : stpE i (rowsB kLink).2 (⟨[], a :: b :: r⟩ :: [⟨kUsing, [x0]⟩, ⟨kTo, [x1]⟩]) = moveL i (lineP (stepR (⟨kLink, a :: b :: r⟩ :: [⟨kUsing, [x0]⟩, ⟨kTo, [x1]⟩]))) := by
  refine law_of (X := ⟨0, 4, b :: r, [x0], [a], x1⟩) (kind := 4) ?_ (by decide) ?_ rfl (.inr rfl)
  · obtain ⟨q1, q2, q3, q4, q5, q6, q7, q8, q9, q10, q11⟩ := cc_dd hb
    unfold stepR stepG
    rw [q1, q2, q3, q4, q5, q6, q7, q8, q9, q10, q11]
    rfl
  · rw [any3, nmG_nil4, nmG_using, nmG_to]
    unfold namedB
    dsimp only
    simp only [List.all_cons, List.all_nil, Bool.and_true, Bool.true_and]
    generalize refB b = v0
    generalize r.all refB = v1
    generalize refB x0 = v2
    generalize idB a = v3
    generalize (pathE x1 == 0) = v4
    cases v0 <;> cases v1 <;> cases v2 <;> cases v3 <;> cases v4 <;> rfl
theorem law_Link2 {i : Int} (a b : Bs) (r : List Bs) (x0 y0 : Bs) (z0 : List Bs) (x1 : Bs) (hb : NoBl (⟨kLink, a :: b :: r⟩ :: [⟨kUsing, x0 :: y0 :: z0⟩, ⟨kTo, [x1]⟩])) : stpE i (rowsB kLink).2 (⟨[], a :: b :: r⟩ :: [⟨kUsing, x0 :: y0 :: z0⟩, ⟨kTo, [x1]⟩]) = moveL i (lineP (stepR (⟨kLink, a :: b :: r⟩ :: [⟨kUsing, x0 :: y0 :: z0⟩, ⟨kTo, [x1]⟩]))) := by
  refine law_of (X := ⟨0, 4, b :: r, x0 :: y0 :: z0, [a], x1⟩) (kind := 4) ?_ (by decide) ?_ rfl (.inr rfl)
  · obtain ⟨q1, q2, q3, q4, q5, q6, q7, q8, q9, q10, q11⟩ := cc_dd hb
    unfold stepR stepG
    rw [q1, q2, q3, q4, q5, q6, q7, q8, q9, q10, q11]
    rfl
  · rw [any3, nmG_nil4, nmG_using, nmG_to]
    unfold namedB
    dsimp only
    simp only [List.all_cons, List.all_nil, Bool.and_true, Bool.true_and]
    generalize refB b = v0
    generalize r.all refB = v1
    generalize refB x0 = v2
    generalize refB y0 = v3
    generalize z0.all refB = v4
    generalize idB a = v5
    generalize (pathE x1 == 0) = v6
    simp only [Bool.not_and, Bool.or_assoc]
    try (cases v0 <;> simp [Bool.or_comm, Bool.or_left_comm])
theorem law_Run0 {i : Int} (a : Bs) (x0 : Bs) (x1 : Bs) (hb : NoBl (⟨kRun, [a]⟩ :: [⟨kOn, [x0]⟩, ⟨kTo, [x1]⟩])) : stpE i (rowsB kRun).2 (⟨[], [a]⟩ :: [⟨kOn, [x0]⟩, ⟨kTo, [x1]⟩]) = moveL i (lineP (stepR (⟨kRun, [a]⟩ :: [⟨kOn, [x0]⟩, ⟨kTo, [x1]⟩]))) := by
  refine law_of (X := ⟨0, 5, [a, x0], [], [], x1⟩) (kind := 5) ?_ (by decide) ?_ rfl (.inr rfl)
  · obtain ⟨q1, q2, q3, q4, q5, q6, q7, q8, q9, q10, q11⟩ := cc_dd hb
    unfold stepR stepG
    rw [q1, q2, q3, q4, q5, q6, q7, q8, q9, q10, q11]
    rfl
  · rw [any3, nmG_nil (by decide), nmG_on, nmG_to]
    unfold namedB
    dsimp only
    simp only [List.all_cons, List.all_nil, Bool.and_true, Bool.true_and]
    generalize refB a = v0
    generalize refB x0 = v1
    generalize (pathE x1 == 0) = v2
    cases v0 <;> cases v1 <;> cases v2 <;> rfl
theorem law_Run1 {i : Int} (a : Bs) (x0 : Bs) (x1 : Bs) (x2 : Bs) (hb : NoBl (⟨kRun, [a]⟩ :: [⟨kUsing, [x0]⟩, ⟨kOn, [x1]⟩, ⟨kTo, [x2]⟩])) : stpE i (rowsB kRun).2 (⟨[], [a]⟩ :: [⟨kUsing, [x0]⟩, ⟨kOn, [x1]⟩, ⟨kTo, [x2]⟩]) = moveL i (lineP (stepR (⟨kRun, [a]⟩ :: [⟨kUsing, [x0]⟩, ⟨kOn, [x1]⟩, ⟨kTo, [x2]⟩]))) := by
  refine law_of (X := ⟨0, 5, [a, x1], [x0], [], x2⟩) (kind := 5) ?_ (by decide) ?_ rfl (.inr rfl)
  · obtain ⟨q1, q2, q3, q4, q5, q6, q7, q8, q9, q10, q11⟩ := cc_dd hb
    unfold stepR stepG
    rw [q1, q2, q3, q4, q5, q6, q7, q8, q9, q10, q11]
    rfl
  · rw [any4, nmG_nil (by decide), nmG_using, nmG_on, nmG_to]
    unfold namedB
    dsimp only
    simp only [List.all_cons, List.all_nil, Bool.and_true, Bool.true_and]
    generalize refB a = v0
    generalize refB x1 = v1
    generalize refB x0 = v2
    generalize (pathE x2 == 0) = v3
    cases v0 <;> cases v1 <;> cases v2 <;> cases v3 <;> rfl
theorem law_Run2 {i : Int} (a : Bs) (x0 y0 : Bs) (z0 : List Bs) (x1 : Bs) (x2 : Bs) (hb : NoBl (⟨kRun, [a]⟩ :: [⟨kUsing, x0 :: y0 :: z0⟩, ⟨kOn, [x1]⟩, ⟨kTo, [x2]⟩])) : stpE i (rowsB kRun).2 (⟨[], [a]⟩ :: [⟨kUsing, x0 :: y0 :: z0⟩, ⟨kOn, [x1]⟩, ⟨kTo, [x2]⟩]) = moveL i (lineP (stepR (⟨kRun, [a]⟩ :: [⟨kUsing, x0 :: y0 :: z0⟩, ⟨kOn, [x1]⟩, ⟨kTo, [x2]⟩]))) := by
  refine law_of (X := ⟨0, 5, [a, x1], x0 :: y0 :: z0, [], x2⟩) (kind := 5) ?_ (by decide) ?_ rfl (.inr rfl)
  · obtain ⟨q1, q2, q3, q4, q5, q6, q7, q8, q9, q10, q11⟩ := cc_dd hb
    unfold stepR stepG
    rw [q1, q2, q3, q4, q5, q6, q7, q8, q9, q10, q11]
    rfl
  · rw [any4, nmG_nil (by decide), nmG_using, nmG_on, nmG_to]
    unfold namedB
    dsimp only
    simp only [List.all_cons, List.all_nil, Bool.and_true, Bool.true_and]
    generalize refB a = v0
    generalize refB x1 = v1
    generalize refB x0 = v2
    generalize refB y0 = v3
    generalize z0.all refB = v4
    generalize (pathE x2 == 0) = v5
    simp only [Bool.not_and, Bool.or_assoc]
    try (cases v0 <;> simp [Bool.or_comm, Bool.or_left_comm])
theorem law_Patch0 {i : Int} (a : Bs) (x0 : Bs) (x1 : Bs) (hb : NoBl (⟨kPatch, [a]⟩ :: [⟨kWith, [x0]⟩, ⟨kTo, [x1]⟩])) : stpE i (rowsB kPatch).2 (⟨[], [a]⟩ :: [⟨kWith, [x0]⟩, ⟨kTo, [x1]⟩]) = moveL i (lineP (stepR (⟨kPatch, [a]⟩ :: [⟨kWith, [x0]⟩, ⟨kTo, [x1]⟩]))) := by
  refine law_of (X := ⟨0, 6, [a, x0], [], [], x1⟩) (kind := 6) ?_ (by decide) ?_ rfl (.inr rfl)
  · obtain ⟨q1, q2, q3, q4, q5, q6, q7, q8, q9, q10, q11⟩ := cc_dd hb
    unfold stepR stepG
    rw [q1, q2, q3, q4, q5, q6, q7, q8, q9, q10, q11]
    rfl
  · rw [any3, nmG_nil (by decide), nmG_with6, nmG_to]
    unfold namedB
    dsimp only
    simp only [List.all_cons, List.all_nil, Bool.and_true, Bool.true_and]
    generalize refB a = v0
    generalize refB x0 = v1
    generalize (pathE x1 == 0) = v2
    cases v0 <;> cases v1 <;> cases v2 <;> rfl
theorem law_Copy0 {i : Int} (a : Bs) (x0 : Bs) (hb : NoBl (⟨kCopy, [a]⟩ :: [⟨kTo, [x0]⟩])) : stpE i (rowsB kCopy).2 (⟨[], [a]⟩ :: [⟨kTo, [x0]⟩]) = moveL i (lineP (stepR (⟨kCopy, [a]⟩ :: [⟨kTo, [x0]⟩]))) := by
  refine law_of (X := ⟨0, 7, [a], [], [], x0⟩) (kind := 7) ?_ (by decide) ?_ rfl (.inr rfl)
  · obtain ⟨q1, q2, q3, q4, q5, q6, q7, q8, q9, q10, q11⟩ := cc_dd hb
    unfold stepR stepG
    rw [q1, q2, q3, q4, q5, q6, q7, q8, q9, q10, q11]
    rfl
  · rw [any2, nmG_nil (by decide), nmG_to]
    unfold namedB
    dsimp only
    simp only [List.all_cons, List.all_nil, Bool.and_true, Bool.true_and]
    generalize refB a = v0
    generalize (pathE x0 == 0) = v1
    cases v0 <;> cases v1 <;> rfl
theorem law_Install0 {i : Int} (a : Bs) (x0 : Bs) (hb : NoBl (⟨kInstall, [a]⟩ :: [⟨kAs, [x0]⟩])) : stpE i (rowsB kInstall).2 (⟨[], [a]⟩ :: [⟨kAs, [x0]⟩]) = moveL i (lineP (stepR (⟨kInstall, [a]⟩ :: [⟨kAs, [x0]⟩]))) := by
  refine law_of (X := ⟨0, 8, [a], [], [], x0⟩) (kind := 8) ?_ (by decide) ?_ rfl (.inr rfl)
  · obtain ⟨q1, q2, q3, q4, q5, q6, q7, q8, q9, q10, q11⟩ := cc_dd hb
    unfold stepR stepG
    rw [q1, q2, q3, q4, q5, q6, q7, q8, q9, q10, q11]
    rfl
  · rw [any2, nmG_nil (by decide), nmG_as]
    unfold namedB
    dsimp only
    simp only [List.all_cons, List.all_nil, Bool.and_true, Bool.true_and]
    generalize refB a = v0
    generalize (pathE x0 == 0) = v1
    cases v0 <;> cases v1 <;> rfl
theorem step_law {i : Int} {ws : List Bs} (hne : ws ≠ []) (hb : ∀ w ∈ ws, ∀ b ∈ w, b ≠ 32) : stepP i ws = moveL i (lineW ws) := by
  unfold stepP lineW
  rw [show ws.any (· == []) = hasB ws [] from rfl]
  cases hasB ws []
  rotate_left
  · rfl
  simp only [Bool.false_eq_true, if_false]
  have hhd : ws.headD [] ∈ ws := by
    cases ws with
    | nil => exact absurd rfl hne
    | cons w r => simp
  have hnb : NoBl (gList (ws.headD []) ws.tail) := fun g hg => (gList_all (P := fun w => ∀ b ∈ w, b ≠ 32) (hb _ hhd) (fun w hw => hb _ (List.mem_of_mem_tail hw)) g hg).1
  obtain ⟨w1, t, ht⟩ := gList_nm ws.tail
  rw [ht] at hnb
  rw [ht, ht]
  have ha := any_snd hnb
  cases hc : (rowsB (ws.headD [])).1.any (fun r => fitsB (⟨[], w1⟩ :: t) r)
  · rw [hc] at ha
    simp only [Bool.false_eq_true, if_false]
    unfold lineP
    rw [← ha]
    rfl
  simp only [if_true]
  rw [any_fits] at hc
  generalize ws.headD [] = w0 at *
  clear ha ht hhd hb hne
  rw [List.map_cons, show nsg ⟨[], w1⟩ = ([], (nsg ⟨w0, w1⟩).2) from rfl] at hc
  have hn0 : ∀ s, (nsg ⟨w0, w1⟩).2 = s → nsg ⟨w0, w1⟩ = (w0, s) := fun s h => Prod.ext rfl h
  generalize hs0 : (nsg ⟨w0, w1⟩).2 = s0 at *
  have hn1 := hn0 _ rfl
  clear hn0 hs0
  by_cases h0 : w0 = kCompile
  · subst h0
    rw [rwN_Compile] at hc
    simp only [List.any_cons, List.any_nil, Bool.or_false, Bool.or_eq_true, beq_iff_eq, List.cons.injEq, Prod.mk.injEq, true_and] at hc
    rcases hc with ⟨hs, hT⟩ | ⟨hs, hT⟩ | ⟨hs, hT⟩
    · rw [hs] at hn1
      obtain ⟨a, hw⟩ := sgn1 hn1
      cases hw
      obtain ⟨g0, rfl, e0⟩ := mp1 hT
      obtain ⟨x0, rfl⟩ := sgn1 e0
      exact law_Compile0 a x0 hnb
    · rw [hs] at hn1
      obtain ⟨a, hw⟩ := sgn1 hn1
      cases hw
      obtain ⟨g0, g1, rfl, e0, e1⟩ := mp2 hT
      obtain ⟨x0, rfl⟩ := sgn1 e0
      obtain ⟨x1, rfl⟩ := sgn1 e1
      exact law_Compile1 a x0 x1 hnb
    · rw [hs] at hn1
      obtain ⟨a, hw⟩ := sgn1 hn1
      cases hw
      obtain ⟨g0, g1, rfl, e0, e1⟩ := mp2 hT
      obtain ⟨x0, rfl⟩ := sgn1 e0
      obtain ⟨x1, y1, z1, rfl⟩ := sgnN e1
      exact law_Compile2 a x0 x1 y1 z1 hnb
  replace h0 : (w0 == kCompile) = false := beq_eq_false_iff_ne.2 h0
  by_cases h1 : w0 = kArchive
  · subst h1
    rw [rwN_Archive] at hc
    simp only [List.any_cons, List.any_nil, Bool.or_false, Bool.or_eq_true, beq_iff_eq, List.cons.injEq, Prod.mk.injEq, true_and] at hc
    rcases hc with ⟨hs, hT⟩ | ⟨hs, hT⟩
    · rw [hs] at hn1
      obtain ⟨a, hw⟩ := sgn1 hn1
      cases hw
      obtain ⟨g0, rfl, e0⟩ := mp1 hT
      obtain ⟨x0, rfl⟩ := sgn1 e0
      exact law_Archive0 a x0 hnb
    · rw [hs] at hn1
      obtain ⟨a, b, r, hw⟩ := sgnN hn1
      cases hw
      obtain ⟨g0, rfl, e0⟩ := mp1 hT
      obtain ⟨x0, rfl⟩ := sgn1 e0
      exact law_Archive1 a b r x0 hnb
  replace h1 : (w0 == kArchive) = false := beq_eq_false_iff_ne.2 h1
  by_cases h2 : w0 = kShare
  · subst h2
    rw [rwN_Share] at hc
    simp only [List.any_cons, List.any_nil, Bool.or_false, Bool.or_eq_true, beq_iff_eq, List.cons.injEq, Prod.mk.injEq, true_and] at hc
    rcases hc with ⟨hs, hT⟩ | ⟨hs, hT⟩
    · rw [hs] at hn1
      obtain ⟨a, hw⟩ := sgn1 hn1
      cases hw
      obtain ⟨g0, rfl, e0⟩ := mp1 hT
      obtain ⟨x0, rfl⟩ := sgn1 e0
      exact law_Share0 a x0 hnb
    · rw [hs] at hn1
      obtain ⟨a, b, r, hw⟩ := sgnN hn1
      cases hw
      obtain ⟨g0, rfl, e0⟩ := mp1 hT
      obtain ⟨x0, rfl⟩ := sgn1 e0
      exact law_Share1 a b r x0 hnb
  replace h2 : (w0 == kShare) = false := beq_eq_false_iff_ne.2 h2
  by_cases h3 : w0 = kLink
  · subst h3
    rw [rwN_Link] at hc
    simp only [List.any_cons, List.any_nil, Bool.or_false, Bool.or_eq_true, beq_iff_eq, List.cons.injEq, Prod.mk.injEq, true_and] at hc
    rcases hc with ⟨hs, hT⟩ | ⟨hs, hT⟩ | ⟨hs, hT⟩
    · rw [hs] at hn1
      obtain ⟨a, b, r, hw⟩ := sgnN hn1
      cases hw
      obtain ⟨g0, rfl, e0⟩ := mp1 hT
      obtain ⟨x0, rfl⟩ := sgn1 e0
      exact law_Link0 a b r x0 hnb
    · rw [hs] at hn1
      obtain ⟨a, b, r, hw⟩ := sgnN hn1
      cases hw
      obtain ⟨g0, g1, rfl, e0, e1⟩ := mp2 hT
      obtain ⟨x0, rfl⟩ := sgn1 e0
      obtain ⟨x1, rfl⟩ := sgn1 e1
      exact law_Link1 a b r x0 x1 hnb
    · rw [hs] at hn1
      obtain ⟨a, b, r, hw⟩ := sgnN hn1
      cases hw
      obtain ⟨g0, g1, rfl, e0, e1⟩ := mp2 hT
      obtain ⟨x0, y0, z0, rfl⟩ := sgnN e0
      obtain ⟨x1, rfl⟩ := sgn1 e1
      exact law_Link2 a b r x0 y0 z0 x1 hnb
  replace h3 : (w0 == kLink) = false := beq_eq_false_iff_ne.2 h3
  by_cases h4 : w0 = kRun
  · subst h4
    rw [rwN_Run] at hc
    simp only [List.any_cons, List.any_nil, Bool.or_false, Bool.or_eq_true, beq_iff_eq, List.cons.injEq, Prod.mk.injEq, true_and] at hc
    rcases hc with ⟨hs, hT⟩ | ⟨hs, hT⟩ | ⟨hs, hT⟩
    · rw [hs] at hn1
      obtain ⟨a, hw⟩ := sgn1 hn1
      cases hw
      obtain ⟨g0, g1, rfl, e0, e1⟩ := mp2 hT
      obtain ⟨x0, rfl⟩ := sgn1 e0
      obtain ⟨x1, rfl⟩ := sgn1 e1
      exact law_Run0 a x0 x1 hnb
    · rw [hs] at hn1
      obtain ⟨a, hw⟩ := sgn1 hn1
      cases hw
      obtain ⟨g0, g1, g2, rfl, e0, e1, e2⟩ := mp3 hT
      obtain ⟨x0, rfl⟩ := sgn1 e0
      obtain ⟨x1, rfl⟩ := sgn1 e1
      obtain ⟨x2, rfl⟩ := sgn1 e2
      exact law_Run1 a x0 x1 x2 hnb
    · rw [hs] at hn1
      obtain ⟨a, hw⟩ := sgn1 hn1
      cases hw
      obtain ⟨g0, g1, g2, rfl, e0, e1, e2⟩ := mp3 hT
      obtain ⟨x0, y0, z0, rfl⟩ := sgnN e0
      obtain ⟨x1, rfl⟩ := sgn1 e1
      obtain ⟨x2, rfl⟩ := sgn1 e2
      exact law_Run2 a x0 y0 z0 x1 x2 hnb
  replace h4 : (w0 == kRun) = false := beq_eq_false_iff_ne.2 h4
  by_cases h5 : w0 = kPatch
  · subst h5
    rw [rwN_Patch] at hc
    simp only [List.any_cons, List.any_nil, Bool.or_false, Bool.or_eq_true, beq_iff_eq, List.cons.injEq, Prod.mk.injEq, true_and] at hc
    rcases hc with ⟨hs, hT⟩
    · rw [hs] at hn1
      obtain ⟨a, hw⟩ := sgn1 hn1
      cases hw
      obtain ⟨g0, g1, rfl, e0, e1⟩ := mp2 hT
      obtain ⟨x0, rfl⟩ := sgn1 e0
      obtain ⟨x1, rfl⟩ := sgn1 e1
      exact law_Patch0 a x0 x1 hnb
  replace h5 : (w0 == kPatch) = false := beq_eq_false_iff_ne.2 h5
  by_cases h6 : w0 = kCopy
  · subst h6
    rw [rwN_Copy] at hc
    simp only [List.any_cons, List.any_nil, Bool.or_false, Bool.or_eq_true, beq_iff_eq, List.cons.injEq, Prod.mk.injEq, true_and] at hc
    rcases hc with ⟨hs, hT⟩
    · rw [hs] at hn1
      obtain ⟨a, hw⟩ := sgn1 hn1
      cases hw
      obtain ⟨g0, rfl, e0⟩ := mp1 hT
      obtain ⟨x0, rfl⟩ := sgn1 e0
      exact law_Copy0 a x0 hnb
  replace h6 : (w0 == kCopy) = false := beq_eq_false_iff_ne.2 h6
  by_cases h7 : w0 = kInstall
  · subst h7
    rw [rwN_Install] at hc
    simp only [List.any_cons, List.any_nil, Bool.or_false, Bool.or_eq_true, beq_iff_eq, List.cons.injEq, Prod.mk.injEq, true_and] at hc
    rcases hc with ⟨hs, hT⟩
    · rw [hs] at hn1
      obtain ⟨a, hw⟩ := sgn1 hn1
      cases hw
      obtain ⟨g0, rfl, e0⟩ := mp1 hT
      obtain ⟨x0, rfl⟩ := sgn1 e0
      exact law_Install0 a x0 hnb
  replace h7 : (w0 == kInstall) = false := beq_eq_false_iff_ne.2 h7
  exfalso
  unfold rwN at hc
  rw [rows_none h0 h1 h2 h3 h4 h5 h6 h7] at hc
  simp at hc
end Go.Ab
