/-
  One text of the proof (own work): contracts of functions of the program, by the abstract machine.
-/
import Derived.Tactics
import Derived.Tactics2
import Derived.LoopTactic
import Derived.Laws.RangeString
import Derived.Laws.RangeAny
import Derived.Laws.Strings
import Derived.Laws.Bits64
import Derived.Below
import Derived.Test.YtdodjhiofpiaaaaDoorX19
import Derived.Test.YtdodjhiofpiaaaaDoorX29
import Derived.Test.YtdodjhiofpiaaaaDoorX23
import Derived.Test.YtdodjhiofpiaaaaDoorX26
set_option linter.unusedVariables false
set_option linter.unusedSimpArgs false
namespace Go.Ab
open Go Go.RowKit Go.Proofs Go.Shelf
set_option maxRecDepth 10000
set_option maxHeartbeats 8000000
theorem join_T : ∀ (w : Bs) (r : List Bs), Lib.join (w :: r) [10] = w ++ joinT r
  | w, [] => by simp [Lib.join, joinT]
  | w, v :: r => by
    have ih := join_T v r
    rw [joinT]
    rw [show Lib.join (w :: v :: r) [10] = w ++ [10] ++ Lib.join (v :: r) [10] by simp [Lib.join], ih]
    simp
theorem many_one (l : List Bs) : (l.any fun s => decide (((splitB 10 s).length : Int) > 1)) = !(l.all oneL) := by
  rw [List.not_all_eq_any_not]
  congr 1
  funext s
  have h := List.length_pos_iff.2 (splitB_ne 10 s)
  unfold oneL
  generalize (splitB 10 s).length = n at *
  rw [Bool.eq_iff_iff]
  simp only [decide_eq_true_eq, Bool.not_eq_true', beq_eq_false_iff_ne]
  omega
theorem f_anyJ_ok : PureOK Tryd.prog 39 true (gAnyD D.str (fun s : Bs => s.length ≤ 1099511627776) 40 [] fun s => decide (((splitB 10 s).length : Int) > 1)) :=
  f_anyS_ok f_joinC_ok fun _ h => g_joinC_eq h
noncomputable def g_joinP : List D → Option D := encSpec (fun x : (List Bs) => [.list (x.map .str)]) (fun x : (List Bs) => (joinT x).length ≤ 1099511627776) (fun x : (List Bs) => eSE (joinR x))
theorem g_joinP_eq {l : List Bs} (hd : (joinT l).length ≤ 1099511627776) : g_joinP [.list (l.map .str)] = some (eSE (joinR l)) := encSpec_eq (x := l) hd fun y hy => by
    simp only [List.cons.injEq, and_true, true_and, D.str.injEq, D.int.injEq, D.list.injEq, D.bool.injEq, D.agg.injEq, D.clo.injEq, Int.natCast_inj, inj_ie] at hy
    rw [hy]
theorem f_joinP_ok : PureOK Tryd.prog 21 false g_joinP := by
  have hΓ := Γp f_anyJ_ok (Γp f_join_ok (Γn))
  refine pure_enc (n := 37) (rs := [.tmp 2, .tmp 3]) Tryd.func21 (by kernel_rfl) rfl (by kernel_rfl) (by kernel_rfl) ?_
  rintro l hd
  (try dsimp only at hd ⊢)
  refine ⟨fun h => (by cases h), fun k hz0 => ?_⟩
  have hl := joinT_len l
  have hmem : ∀ w ∈ l, w.length ≤ 1099511627776 := fun w hw => Nat.le_trans (joinT_mem hw) hd
  rw [start_frame (by simp)]; simp only [enumV, go_sem, emptyH]
  rcases hlc : l with _ | ⟨w0, r⟩
  · repeat (first
    | (apply axJ; (focus ((with_reducible constructor) <;> rfl)))
    | (apply awT mixedOK hΓ (by kernel_rfl); (simp (disch := omega) only [go_sem, ↓reduceIte, dk, ↓lk, Int.reduceToNat, List.getElem?_cons_zero, List.getElem?_cons_succ, Int.reduceBEq, Int.reduceBNe, Bool.true_bne, Bool.false_bne, Bool.not_true, Bool.not_false, show ((0 : Nat) : Int) = 0 from rfl, List.length_nil, List.map_nil] <;> with_reducible rfl))
    | ((first | apply awR hΓ | apply awG | apply awH mixedOK hΓ rfl (by kernel_rfl) | apply ovE rfl); (simp (disch := omega) only [go_sem, ↓reduceIte, dk, ↓lk, Int.reduceToNat, List.getElem?_cons_zero, List.getElem?_cons_succ, Int.reduceBEq, Int.reduceBNe, Bool.true_bne, Bool.false_bne, Bool.not_true, Bool.not_false, show ((0 : Nat) : Int) = 0 from rfl, List.length_nil, List.map_nil] <;> with_reducible rfl); exact trivial)
    | rfl)
    try rfl
  rw [← hlc]
  have hlen : l.length = r.length + 1 := by rw [hlc]; rfl
  have hjt : joinT l = [10] ++ w0 ++ joinT r := by rw [hlc, joinT]
  have hres : joinR l = if l.all oneL then (if decide ((l.length : Int) > 1024) || decide (((w0 ++ joinT r).length : Int) > 65536) then ([], 10) else (w0 ++ joinT r, 0)) else ([], 1) := by
    rw [hlen, hlc]
    rfl
  rw [hres]
  have hz : ((l.length : Int) == 0) = false := by rw [beq_eq_false_iff_ne]; omega
  have hfull : w0.length + (joinT r).length ≤ 1099511627776 := by
    rw [hjt] at hd
    simp only [List.length_append, List.length_cons, List.length_nil] at hd
    omega
  have e1 := gAnyD_eq (e := D.str) (dm := fun s : Bs => s.length ≤ 1099511627776) str_inj' (f := 40) (caps := []) (p := fun s => decide (((splitB 10 s).length : Int) > 1)) (by omega : l.length ≤ 1099511627776) hmem
  rw [many_one] at e1
  have e2 := g_join_eq (l := l) (s := [10]) ⟨by omega, by rw [hlc, join_T, List.length_append]; exact hfull⟩
  rw [show Lib.join l [10] = w0 ++ joinT r by rw [hlc, join_T]] at e2
  generalize l.all oneL = c0 at *
  cases c0
  · repeat (first
    | (apply axJ; (focus ((with_reducible constructor) <;> rfl)))
    | (apply awT mixedOK hΓ (by kernel_rfl); (simp (disch := omega) only [go_sem, ↓reduceIte, dk, ↓lk, hz, e1] <;> with_reducible rfl))
    | ((first | apply awR hΓ | apply awG | apply awH mixedOK hΓ rfl (by kernel_rfl) | apply ovE rfl); (simp (disch := omega) only [go_sem, ↓reduceIte, dk, ↓lk, hz, e1] <;> with_reducible rfl); exact trivial)
    | rfl)
    try rfl
  repeat (first
    | (apply axJ; (focus ((with_reducible constructor) <;> rfl)))
    | (apply awT mixedOK hΓ (by kernel_rfl); (simp (disch := omega) only [go_sem, ↓reduceIte, dk, ↓lk, hz, e1] <;> with_reducible rfl))
    | ((first | apply awR hΓ | apply awG | apply awH mixedOK hΓ rfl (by kernel_rfl) | apply ovE rfl); (simp (disch := omega) only [go_sem, ↓reduceIte, dk, ↓lk, hz, e1] <;> with_reducible rfl); exact trivial)
    | rfl)
  refine awp_loop_at (X := Nat × Nat) (fun y => (frame 37 [(0, .data (.list (l.map .str))), (4, .data (i64 y.2)), (17, .data (.list (l.map .str))), (18, .data (i64 l.length)), (19, .data (i64 y.1))])) (fun _ => []) 30
    (fun y => y.1 ≤ l.length ∧ y.2 + y.1 + 1 = l.length + (joinT (l.take y.1)).length) (fun y => l.length - y.1) (0, l.length - 1)
    ⟨Nat.zero_le _, by simp only [List.take_zero, joinT, List.length_nil]; omega⟩ (Weak.v (by (simp [ConvF, lookV, Conv, ints, show ((l.length - 1 : Nat) : Int) = (l.length : Int) - 1 by omega]; done)) (by (simp (disch := omega) only [TabSub, look, if_pos, if_neg, Obj.refsOK, refsOKs, AV.refsOK, decide_eq_true_eq, Bool.and_true, Bool.and_self, show ((l.length - 1 : Nat) : Int) = (l.length : Int) - 1 by omega] ) <;> ((repeat' apply And.intro) <;> first | exact True.intro | omega | (simp; done) | rfl))) ?_
  rintro ⟨i, n⟩ ⟨h1, h2⟩
  dsimp only at h1 h2 ⊢
  have hle := joinT_le l i
  by_cases hi : i < l.length
  · have hst := joinT_step hi
    have hwi := hmem _ (List.getElem_mem hi)
    generalize hy : l[i] = y at *
    repeat (first
      | (apply axJ; (focus ((with_reducible constructor) <;> rfl)))
      | (apply awT mixedOK hΓ (by kernel_rfl); (simp (disch := omega) only [go_sem, ↓reduceIte, dk, ↓lk, hy] <;> with_reducible rfl))
      | ((first | apply awR hΓ | apply awG | apply awH mixedOK hΓ rfl (by kernel_rfl) | apply ovE rfl); (simp (disch := omega) only [go_sem, ↓reduceIte, dk, ↓lk, hy] <;> with_reducible rfl); exact trivial)
      | rfl)
    refine ⟨(i + 1, n + y.length), ⟨by dsimp only; omega, ?_⟩, by dsimp only; omega, ?_⟩
    · dsimp only
      rw [hst]
      simp only [List.length_append, List.length_cons, List.length_nil]
      omega
    · exact Weak.v (by (simp [ConvF, lookV, Conv, ints, Int.natCast_add]; done)) (by (simp (disch := omega) only [TabSub, look, if_pos, if_neg, Obj.refsOK, refsOKs, AV.refsOK, decide_eq_true_eq, Bool.and_true, Bool.and_self, Int.natCast_add] ) <;> ((repeat' apply And.intro) <;> first | exact True.intro | omega | (simp; done) | rfl))
  · have hi3 : i = l.length := by omega
    subst hi3
    rw [List.take_length] at h2
    have hn : n = (w0 ++ joinT r).length := by
      rw [hjt] at h2
      simp only [List.length_append, List.length_cons, List.length_nil] at h2 ⊢
      omega
    rw [← hn]
    generalize hc1 : decide ((l.length : Int) > 1024) = c1
    generalize hc2 : decide ((n : Int) > 65536) = c2
    cases c1
    rotate_left
    · repeat (first
      | (apply axJ; (focus ((with_reducible constructor) <;> rfl)))
      | (apply awT mixedOK hΓ (by kernel_rfl); (simp (disch := omega) only [go_sem, ↓reduceIte, dk, ↓lk, hc1, hc2] <;> with_reducible rfl))
      | ((first | apply awR hΓ | apply awG | apply awH mixedOK hΓ rfl (by kernel_rfl) | apply ovE rfl); (simp (disch := omega) only [go_sem, ↓reduceIte, dk, ↓lk, hc1, hc2] <;> with_reducible rfl); exact trivial)
      | rfl)
      try rfl
    cases c2
    · repeat (first
      | (apply axJ; (focus ((with_reducible constructor) <;> rfl)))
      | (apply awT mixedOK hΓ (by kernel_rfl); (simp (disch := omega) only [go_sem, ↓reduceIte, dk, ↓lk, hc1, hc2, e2] <;> with_reducible rfl))
      | ((first | apply awR hΓ | apply awG | apply awH mixedOK hΓ rfl (by kernel_rfl) | apply ovE rfl); (simp (disch := omega) only [go_sem, ↓reduceIte, dk, ↓lk, hc1, hc2, e2] <;> with_reducible rfl); exact trivial)
      | rfl)
      try rfl
    · repeat (first
      | (apply axJ; (focus ((with_reducible constructor) <;> rfl)))
      | (apply awT mixedOK hΓ (by kernel_rfl); (simp (disch := omega) only [go_sem, ↓reduceIte, dk, ↓lk, hc1, hc2] <;> with_reducible rfl))
      | ((first | apply awR hΓ | apply awG | apply awH mixedOK hΓ rfl (by kernel_rfl) | apply ovE rfl); (simp (disch := omega) only [go_sem, ↓reduceIte, dk, ↓lk, hc1, hc2] <;> with_reducible rfl); exact trivial)
      | rfl)
      try rfl
end Go.Ab
namespace Go.Ab
open Go Go.RowKit Go.Proofs Go.Shelf
set_option maxRecDepth 10000
set_option maxHeartbeats 8000000
theorem gList_nm (l : List Bs) : ∃ ws t, ∀ nm, gList nm l = ⟨nm, ws⟩ :: t := by
  have key : ∀ (l : List Bs), ∃ ws t, ∀ nm, (l.foldl gstep ([], ⟨nm, []⟩)).1 ++ [(l.foldl gstep ([], ⟨nm, []⟩)).2] = (⟨nm, ws⟩ : Gp) :: t := by
    have h2 : ∀ (l : List Bs) (a : List Gp) (g : Gp), ∃ r, ∀ (p : List Gp), (l.foldl gstep (p ++ a, g)).1 ++ [(l.foldl gstep (p ++ a, g)).2] = p ++ r := by
      intro l
      induction l with
      | nil => intro a g; exact ⟨a ++ [g], fun p => by simp⟩
      | cons w l ih =>
        intro a g
        simp only [List.foldl_cons]
        unfold gstep
        by_cases h : isSep w = true
        · obtain ⟨r, hr⟩ := ih (a ++ [g]) ⟨w, []⟩
          refine ⟨r, fun p => ?_⟩
          have := hr p
          simp only [h, if_true]
          rw [List.append_assoc]
          exact this
        · obtain ⟨r, hr⟩ := ih a ⟨g.name, g.words ++ [w]⟩
          refine ⟨r, fun p => ?_⟩
          simp only [h]
          exact hr p
    have h3 : ∀ (l : List Bs) (ws0 : List Bs), ∃ ws t, ∀ nm, (l.foldl gstep ([], ⟨nm, ws0⟩)).1 ++ [(l.foldl gstep ([], ⟨nm, ws0⟩)).2] = (⟨nm, ws⟩ : Gp) :: t := by
      intro l
      induction l with
      | nil => intro ws0; exact ⟨ws0, [], fun nm => rfl⟩
      | cons w l ih =>
        intro ws0
        simp only [List.foldl_cons]
        unfold gstep
        by_cases h : isSep w = true
        · simp only [h, if_true, List.nil_append]
          obtain ⟨r, hr⟩ := h2 l [] ⟨w, []⟩
          refine ⟨ws0, r, fun nm => ?_⟩
          have := hr [⟨nm, ws0⟩]
          rw [List.append_nil] at this
          exact this
        · simp only [h]
          exact ih (ws0 ++ [w])
    intro l
    exact h3 l []
  obtain ⟨ws, t, h⟩ := key l
  exact ⟨ws, t, fun nm => h nm⟩
def ptN (p : Pt) : List (Bs × UInt8) := if p.least == 2 then [(p.sep, 43)] else if p.many then [(p.sep, 49), (p.sep, 43)] else [(p.sep, 49)]
def PtOK (p : Pt) : Prop := (p.least = 1) ∨ (p.least = 2 ∧ p.many = true)
theorem sign0 (g : Gp) : (signB g == 49) = (g.words.length == 1) ∧ (signB g == 43) = decide (2 ≤ g.words.length) := by
  unfold signB
  match h : g.words.length with
  | 0 => exact ⟨by decide, by decide⟩
  | 1 => exact ⟨by decide, by decide⟩
  | n + 2 =>
    rw [if_neg (by omega)]
    refine ⟨?_, ?_⟩
    · rw [show ((43 : UInt8) == 49) = false by decide]
      symm
      rw [beq_eq_false_iff_ne]
      omega
    · rw [decide_eq_true (by omega : 2 ≤ n + 2)]
      decide
theorem fit_ptN (g : Gp) (p : Pt) (h : PtOK p) : fitB g p = (ptN p).any (nsg g == ·) := by
  obtain ⟨h1, h2⟩ := sign0 g
  unfold fitB ptN nsg
  rcases h with h | ⟨h, hm⟩
  · rw [h]
    rw [show ((1 : Int) == 2) = false by decide]
    simp only [Bool.false_eq_true, if_false]
    have h4 : ((g.words.length : Int) == 1) = (g.words.length == 1) := by
      rw [Bool.eq_iff_iff]; simp only [beq_iff_eq]; omega
    have h5 : decide ((g.words.length : Int) ≥ 1) = (g.words.length == 1 || decide (2 ≤ g.words.length)) := by
      rw [Bool.eq_iff_iff]; simp only [Bool.or_eq_true, decide_eq_true_eq, beq_iff_eq]; omega
    rw [h4, h5]
    cases p.many
    · simp only [Bool.false_or, List.any_cons, List.any_nil, Bool.or_false, Bool.false_eq_true, if_false]
      rw [show ((g.name, signB g) == (p.sep, (49 : UInt8))) = (g.name == p.sep && signB g == 49) from rfl, h1]
      cases (g.words.length == 1) <;> simp
    · simp only [Bool.true_or, Bool.and_true, if_true, List.any_cons, List.any_nil, Bool.or_false]
      rw [show ((g.name, signB g) == (p.sep, (49 : UInt8))) = (g.name == p.sep && signB g == 49) from rfl, show ((g.name, signB g) == (p.sep, (43 : UInt8))) = (g.name == p.sep && signB g == 43) from rfl, h1, h2]
      cases (g.name == p.sep) <;> simp
  · rw [h, hm]
    simp only [Bool.true_or, Bool.and_true, BEq.rfl, if_true, List.any_cons, List.any_nil, Bool.or_false]
    rw [show ((g.name, signB g) == (p.sep, (43 : UInt8))) = (g.name == p.sep && signB g == 43) from rfl, h2]
    congr 1
    rw [Bool.eq_iff_iff]; simp only [decide_eq_true_eq]; omega
def rowN : List Pt → List (List (Bs × UInt8))
  | [] => [[]]
  | p :: r => (ptN p).flatMap fun x => (rowN r).map (x :: ·)
theorem cons_beq' {α : Type} [BEq α] (a b : α) (l m : List α) : (a :: l == b :: m) = (a == b && l == m) := rfl
theorem fits_rowN : ∀ (gs : List Gp) (ps : List Pt), (∀ p ∈ ps, PtOK p) → fitsB gs ps = (rowN ps).any (gs.map nsg == ·)
  | [], [], _ => rfl
  | [], p :: ps, _ => by
    symm
    show (rowN (p :: ps)).any (fun x => [] == x) = false
    rw [List.any_eq_false]
    intro x hx
    rw [rowN, List.mem_flatMap] at hx
    obtain ⟨y, _, hy⟩ := hx
    obtain ⟨z, _, rfl⟩ := List.mem_map.1 hy
    simp
  | g :: gs, [], _ => by
    simp [rowN, fitsB]
  | g :: gs, p :: ps, h => by
    rw [fitsB, fit_ptN g p (h p (by simp)), fits_rowN gs ps (fun q hq => h q (by simp [hq])), rowN, List.map_cons, List.any_flatMap]
    simp only [List.any_map, Function.comp_def, cons_beq']
    generalize (gs.map nsg) = M
    generalize nsg g = N
    generalize rowN ps = R
    generalize ptN p = Q
    induction Q with
    | nil => rfl
    | cons q Q ih =>
      rw [List.any_cons, List.any_cons, ← ih]
      have hq : R.any (fun a => N == q && M == a) = (N == q && R.any (M == ·)) := by
        cases (N == q)
        · simp
        · simp
      rw [hq]
      cases (N == q) <;> simp
theorem form_beq {l : List Gp} (hb : NoBl l) {q : List (Bs × UInt8)} (hq : ∀ p ∈ q, okN p) : (formS l == litS q) = (l.map nsg == q) := by
  rw [Bool.eq_iff_iff]
  simp only [beq_iff_eq]
  exact ⟨fun h => form_is hb hq h, fun h => by rw [formS_lit, h]⟩
def dd1 (M : List (Bs × UInt8)) : Bool := M == [(kCompile, 49), (kTo, 49)]
def dd2 (M : List (Bs × UInt8)) : Bool := M == [(kCompile, 49), (kTo, 49), (kWith, 49)] || M == [(kCompile, 49), (kTo, 49), (kWith, 43)]
def dd3 (M : List (Bs × UInt8)) : Bool := M == [(kArchive, 49), (kTo, 49)] || M == [(kArchive, 43), (kTo, 49)]
def dd4 (M : List (Bs × UInt8)) : Bool := M == [(kShare, 49), (kTo, 49)] || M == [(kShare, 43), (kTo, 49)]
def dd5 (M : List (Bs × UInt8)) : Bool := M == [(kLink, 43), (kTo, 49)]
def dd6 (M : List (Bs × UInt8)) : Bool := M == [(kLink, 43), (kUsing, 49), (kTo, 49)] || M == [(kLink, 43), (kUsing, 43), (kTo, 49)]
def dd7 (M : List (Bs × UInt8)) : Bool := M == [(kRun, 49), (kOn, 49), (kTo, 49)]
def dd8 (M : List (Bs × UInt8)) : Bool := M == [(kRun, 49), (kUsing, 49), (kOn, 49), (kTo, 49)] || M == [(kRun, 49), (kUsing, 43), (kOn, 49), (kTo, 49)]
def dd9 (M : List (Bs × UInt8)) : Bool := M == [(kPatch, 49), (kWith, 49), (kTo, 49)]
def dd10 (M : List (Bs × UInt8)) : Bool := M == [(kCopy, 49), (kTo, 49)]
def dd11 (M : List (Bs × UInt8)) : Bool := M == [(kInstall, 49), (kAs, 49)]
theorem cc_dd {l : List Gp} (hb : NoBl l) : cc1 (formS l) = dd1 (l.map nsg) ∧ cc2 (formS l) = dd2 (l.map nsg) ∧ cc3 (formS l) = dd3 (l.map nsg) ∧ cc4 (formS l) = dd4 (l.map nsg) ∧ cc5 (formS l) = dd5 (l.map nsg) ∧ cc6 (formS l) = dd6 (l.map nsg) ∧
    cc7 (formS l) = dd7 (l.map nsg) ∧ cc8 (formS l) = dd8 (l.map nsg) ∧ cc9 (formS l) = dd9 (l.map nsg) ∧ cc10 (formS l) = dd10 (l.map nsg) ∧ cc11 (formS l) = dd11 (l.map nsg) := by
  have k := fun (q : List (Bs × UInt8)) (hq : ∀ p ∈ q, okN p) => form_beq hb hq
  refine ⟨?_, ?_, ?_, ?_, ?_, ?_, ?_, ?_, ?_, ?_, ?_⟩
  · exact k [(kCompile, 49), (kTo, 49)] (by unfold okN; decide)
  · exact congr (congrArg or (k [(kCompile, 49), (kTo, 49), (kWith, 49)] (by unfold okN; decide))) (k [(kCompile, 49), (kTo, 49), (kWith, 43)] (by unfold okN; decide))
  · exact congr (congrArg or (k [(kArchive, 49), (kTo, 49)] (by unfold okN; decide))) (k [(kArchive, 43), (kTo, 49)] (by unfold okN; decide))
  · exact congr (congrArg or (k [(kShare, 49), (kTo, 49)] (by unfold okN; decide))) (k [(kShare, 43), (kTo, 49)] (by unfold okN; decide))
  · exact k [(kLink, 43), (kTo, 49)] (by unfold okN; decide)
  · exact congr (congrArg or (k [(kLink, 43), (kUsing, 49), (kTo, 49)] (by unfold okN; decide))) (k [(kLink, 43), (kUsing, 43), (kTo, 49)] (by unfold okN; decide))
  · exact k [(kRun, 49), (kOn, 49), (kTo, 49)] (by unfold okN; decide)
  · exact congr (congrArg or (k [(kRun, 49), (kUsing, 49), (kOn, 49), (kTo, 49)] (by unfold okN; decide))) (k [(kRun, 49), (kUsing, 43), (kOn, 49), (kTo, 49)] (by unfold okN; decide))
  · exact k [(kPatch, 49), (kWith, 49), (kTo, 49)] (by unfold okN; decide)
  · exact k [(kCopy, 49), (kTo, 49)] (by unfold okN; decide)
  · exact k [(kInstall, 49), (kAs, 49)] (by unfold okN; decide)
def rwN (w : Bs) : List (List (Bs × UInt8)) := (rowsB w).1.flatMap rowN
theorem rows_ok (w : Bs) : ∀ r ∈ (rowsB w).1, ∀ p ∈ r, PtOK p := by
  have hall : ∀ rw ∈ [rw_compile, rw_archive, rw_share, rw_link, rw_run, rw_patch, rw_copy, rw_install, []], ∀ r ∈ rw, ∀ p ∈ r, PtOK p := by
    unfold PtOK rw_compile rw_archive rw_share rw_link rw_run rw_patch rw_copy rw_install
    decide
  unfold rowsB
  repeat' split
  all_goals (apply hall; simp)
theorem any_fits (w : Bs) (gs : List Gp) : (rowsB w).1.any (fitsB gs ·) = (rwN w).any (gs.map nsg == ·) := by
  unfold rwN
  rw [List.any_flatMap]
  have h := rows_ok w
  generalize (rowsB w).1 = L at *
  induction L with
  | nil => rfl
  | cons r L ih => rw [List.any_cons, List.any_cons, fits_rowN gs r (h r (by simp)), ih (fun q hq => h q (by simp [hq]))]
end Go.Ab
namespace Go.Ab
open Go Go.RowKit Go.Proofs Go.Shelf
set_option maxRecDepth 10000
set_option maxHeartbeats 8000000
def nmW (kind : Int) (nm : Bs) (i : Nat) (w : Bs) : Bool := if (kind == 1 && nm == kWith) || (kind == 4 && (nm == [] && (i : Int) == 0)) then idB w else if nm == kTo || nm == kAs then pathE w == 0 else refB w
def nmGo (kind : Int) (nm : Bs) : Nat → List Bs → Bool
  | _, [] => true
  | i, w :: r => nmW kind nm i w && nmGo kind nm (i + 1) r
def nmG (kind : Int) (g : Gp) : Bool := nmGo kind g.name 0 g.words
def stF (kind : Int) (x : Stp) (g : Gp) : Stp :=
  if g.name == kTo || g.name == kAs then ⟨x.line, x.kind, x.inn, x.usg, x.wds, g.words.headD []⟩
  else if g.name == kUsing then ⟨x.line, x.kind, x.inn, g.words, x.wds, x.out⟩
  else if kind == 1 && g.name == kWith then ⟨x.line, x.kind, x.inn, x.usg, g.words, x.out⟩
  else if kind == 4 && g.name == [] then ⟨x.line, x.kind, g.words.drop 1, x.usg, g.words.take 1, x.out⟩
  else ⟨x.line, x.kind, x.inn ++ g.words, x.usg, x.wds, x.out⟩
def stpE (i : Int) (kind : Int) (gs : List Gp) : Stp × Int :=
  if gs.any (fun g => !nmG kind g) then (zStp, 2)
  else if dupB [] (gs.foldl (stF kind) ⟨i, kind, [], [], [], []⟩).wds then (zStp, 6)
  else (gs.foldl (stF kind) ⟨i, kind, [], [], [], []⟩, 0)
def stepP (i : Int) (ws : List Bs) : Stp × Int :=
  if hasB ws [] then (zStp, 4)
  else if (rowsB (ws.headD [])).1.any (fitsB (gList [] ws.tail) ·) then stpE i (rowsB (ws.headD [])).2 (gList [] ws.tail)
  else (zStp, 4)
def lineW (ws : List Bs) : Stp × Int := if ws.any (· == []) then (zStp, 4) else lineP (stepR (gList (ws.headD []) ws.tail))
def moveL (i : Int) (r : Stp × Int) : Stp × Int := if r.2 == 0 then (atL r.1 i, 0) else (zStp, r.2)
theorem fin_law {i kind : Int} {gs : List Gp} {X : Stp} (h1 : gs.any (fun g => !nmG kind g) = !namedB X) (h2 : gs.foldl (stF kind) ⟨i, kind, [], [], [], []⟩ = atL X i) (h3 : X.kind = 1 ∨ dupB [] X.wds = false) : stpE i kind gs = moveL i (lineS X) := by
  unfold stpE lineS moveL
  rw [h1, h2]
  cases namedB X
  · rfl
  · simp only [Bool.not_true, Bool.false_eq_true, if_false, if_true]
    show (if dupB [] X.wds = true then _ else _) = _
    rcases h3 with h3 | h3
    · rw [h3]
      cases dupB [] X.wds
      · rfl
      · rfl
    · rw [h3]
      cases (X.kind == 1) <;> rfl
theorem nmGo_all {kind : Int} {nm : Bs} {p : Bs → Bool} (h : ∀ i w, nmW kind nm i w = p w) : ∀ (i : Nat) (l : List Bs), nmGo kind nm i l = l.all p
  | _, [] => rfl
  | i, w :: r => by rw [nmGo, h, nmGo_all h (i + 1) r, List.all_cons]
theorem nmG_to (k : Int) (w : Bs) : nmG k ⟨kTo, [w]⟩ = (pathE w == 0) := by
  show (nmW k kTo 0 w && true) = _
  unfold nmW
  rw [show (kTo == kWith) = false by decide, show (kTo == ([] : Bs)) = false by decide, show (kTo == kTo) = true by decide]
  simp
theorem nmG_as (k : Int) (w : Bs) : nmG k ⟨kAs, [w]⟩ = (pathE w == 0) := by
  show (nmW k kAs 0 w && true) = _
  unfold nmW
  rw [show (kAs == kWith) = false by decide, show (kAs == ([] : Bs)) = false by decide, show (kAs == kTo) = false by decide, show (kAs == kAs) = true by decide]
  simp
theorem nmG_using (k : Int) (l : List Bs) : nmG k ⟨kUsing, l⟩ = l.all refB := by
  refine nmGo_all (fun i w => ?_) 0 l
  unfold nmW
  rw [show (kUsing == kWith) = false by decide, show (kUsing == ([] : Bs)) = false by decide, show (kUsing == kTo) = false by decide, show (kUsing == kAs) = false by decide]
  simp
theorem nmG_on (k : Int) (l : List Bs) : nmG k ⟨kOn, l⟩ = l.all refB := by
  refine nmGo_all (fun i w => ?_) 0 l
  unfold nmW
  rw [show (kOn == kWith) = false by decide, show (kOn == ([] : Bs)) = false by decide, show (kOn == kTo) = false by decide, show (kOn == kAs) = false by decide]
  simp
theorem nmG_with1 (l : List Bs) : nmG 1 ⟨kWith, l⟩ = l.all idB := by
  refine nmGo_all (fun i w => ?_) 0 l
  unfold nmW
  rw [show (kWith == kWith) = true by decide]
  simp
theorem nmG_with6 (l : List Bs) : nmG 6 ⟨kWith, l⟩ = l.all refB := by
  refine nmGo_all (fun i w => ?_) 0 l
  unfold nmW
  rw [show ((6 : Int) == 1) = false by decide, show ((6 : Int) == 4) = false by decide, show (kWith == kTo) = false by decide, show (kWith == kAs) = false by decide]
  simp
theorem nmG_nil {k : Int} (hk : (k == 4) = false) (l : List Bs) : nmG k ⟨[], l⟩ = l.all refB := by
  refine nmGo_all (fun i w => ?_) 0 l
  unfold nmW
  rw [hk, show (([] : Bs) == kWith) = false by decide, show (([] : Bs) == kTo) = false by decide, show (([] : Bs) == kAs) = false by decide]
  simp
theorem nmG_nil4 (w : Bs) (l : List Bs) : nmG 4 ⟨[], w :: l⟩ = (idB w && l.all refB) := by
  have h : ∀ (l : List Bs) (i : Nat), 1 ≤ i → nmGo 4 [] i l = l.all refB := by
    intro l
    induction l with
    | nil => intro i _; rfl
    | cons v r ih =>
      intro i hi
      rw [nmGo, ih (i + 1) (by omega), List.all_cons]
      congr 1
      unfold nmW
      rw [show ((4 : Int) == 1) = false by decide, show (([] : Bs) == kTo) = false by decide, show (([] : Bs) == kAs) = false by decide, show ((i : Int) == 0) = false by rw [beq_eq_false_iff_ne]; omega]
      simp
  show (nmW 4 [] 0 w && nmGo 4 [] 1 l) = _
  rw [h l 1 (Nat.le_refl _)]
  rfl
theorem sgn1 {g : Gp} {n : Bs} (h : nsg g = (n, 49)) : ∃ w, g = ⟨n, [w]⟩ := by
  obtain ⟨nm, ws⟩ := g
  obtain ⟨w, hw⟩ := sign_one (congrArg Prod.snd h)
  have hn : nm = n := congrArg Prod.fst h
  dsimp only at hw
  exact ⟨w, by rw [hw, hn]⟩
theorem sgnN {g : Gp} {n : Bs} (h : nsg g = (n, 43)) : ∃ w v r, g = ⟨n, w :: v :: r⟩ := by
  obtain ⟨nm, ws⟩ := g
  obtain ⟨w, v, r, hw⟩ := sign_many (congrArg Prod.snd h)
  have hn : nm = n := congrArg Prod.fst h
  dsimp only at hw
  exact ⟨w, v, r, by rw [hw, hn]⟩
theorem mp1 {t : List Gp} {a : Bs × UInt8} (h : t.map nsg = [a]) : ∃ g, t = [g] ∧ nsg g = a := by
  match t, h with
  | [g], h => simp only [List.map_cons, List.map_nil, List.cons.injEq, and_true] at h; exact ⟨g, rfl, h⟩
theorem mp2 {t : List Gp} {a b : Bs × UInt8} (h : t.map nsg = [a, b]) : ∃ g k, t = [g, k] ∧ nsg g = a ∧ nsg k = b := by
  match t, h with
  | [g, k], h => simp only [List.map_cons, List.map_nil, List.cons.injEq, and_true] at h; exact ⟨g, k, rfl, h⟩
theorem mp3 {t : List Gp} {a b c : Bs × UInt8} (h : t.map nsg = [a, b, c]) : ∃ g k m, t = [g, k, m] ∧ nsg g = a ∧ nsg k = b ∧ nsg m = c := by
  match t, h with
  | [g, k, m], h => simp only [List.map_cons, List.map_nil, List.cons.injEq, and_true] at h; exact ⟨g, k, m, rfl, h⟩
end Go.Ab
namespace Go.Ab
open Go Go.RowKit Go.Proofs Go.Shelf
set_option maxRecDepth 10000
set_option maxHeartbeats 8000000
theorem pred_growsC {f : FuncId} {fl : Bool} {g : List D → Option D} {p : Nat → Bool} {cs : List D} {us : Array Value} {u : Nat → Value} {w : World} {B : Nat → Prop} (hf : PureOK Tryd.prog f fl g) (hg : ∀ r : Nat, g (.int .i32 r :: cs) = some (.bool (p r)))
    (hB : ∀ b, B b → b < w.heap.size) (hz : us.size = cs.length) (hv : ∀ i, i < cs.length → us[i]? = some (u i)) (h : ∀ i (hi : i < cs.length), DR w B (cs[i]) (u i)) : PredGrows Tryd.prog f us p w := fun W x _ hW => by
  have hsz : (#[encR x] ++ us).size = (D.int .i32 (x : Int) :: cs).length := by
    rw [Array.size_append, hz, List.length_cons]
    show 1 + _ = _
    omega
  refine ((hf _ _ (hg x)).2 W B (#[encR x] ++ us) (fun b hb => Nat.lt_of_lt_of_le (hB b hb) hW.size) hsz (fun i hi v hu => ?_)).2.mono ?_
  · cases i with
    | zero =>
      rw [Array.getElem?_append_left (by simp)] at hu
      cases (show some (encR x) = some v from hu)
      exact .int _ _
    | succ i =>
      rw [Array.getElem?_append_right (by simp)] at hu
      simp only [List.length_cons] at hi
      have hu2 : us[i]? = some v := hu
      rw [hv i (by omega)] at hu2
      cases hu2
      exact (h i (by omega)).mono fun b hb => ⟨hb, hW.block b (hB b hb)⟩
  · rintro e w' ⟨v, rfl, hu, hb⟩
    cases hu
    exact ⟨rfl, hb⟩
noncomputable def g_xf (f : FuncId) (cs : List D) (q : UInt8 → Bool) : List D → Option D := encSpec (fun s : Bs => [.str s, .clo f cs]) (fun s => s.length ≤ 1099511627776) (fun s => i64 (idx q s))
theorem g_xf_eq {f : FuncId} {cs : List D} {q : UInt8 → Bool} {s : Bs} (h : s.length ≤ 1099511627776) : g_xf f cs q [.str s, .clo f cs] = some (.int .i64 (idx q s)) := encSpec_eq (x := s) h fun y hy => by
  simp only [List.cons.injEq, and_true, D.str.injEq] at hy
  rw [hy]
theorem f_xf_ok {f : FuncId} {fl : Bool} {g : List D → Option D} {cs : List D} {p : Nat → Bool} (hf : PureOK Tryd.prog f fl g) (hg : ∀ r : Nat, g (.int .i32 r :: cs) = some (.bool (p r))) (hp : ∀ r, 128 ≤ r → p r = true)
    (eg : ∀ args w, (callFunc f args).run Tryd.prog w = .ok (.enter f args) w) : PureOK Tryd.prog 103 true (g_xf f cs fun b => p b.toNat) := by
  intro ds d hd
  obtain ⟨s, rfl, hx, rfl⟩ := encSpec_some hd
  refine ⟨fun _ => .int _ _, fun w B vs hB hz hvs => ⟨⟨Tryd.f103, Tryd.func103, by kernel_rfl, by kernel_rfl⟩, ?_⟩⟩
  have hz2 : vs.size = 2 := hz
  have h0 : 0 < vs.size := by omega
  have h1 : 1 < vs.size := by omega
  have hv0 := hvs 0 (by simp) (vs[0]'h0) (Array.getElem?_eq_getElem h0)
  have hv1 := hvs 1 (by simp) (vs[1]'h1) (Array.getElem?_eq_getElem h1)
  have e : vs = #[vs[0]'h0, vs[1]'h1] := Array.ext hz2 fun i i1 i2 => by
    match i, i2 with
    | 0, _ => rfl
    | 1, _ => rfl
  have e0 : vs[0]'h0 = .string ⟨s.toArray⟩ := DR.str_eq hv0
  rw [e, e0]
  generalize vs[1]'h1 = v at hv1
  cases (show DR w B (.clo f cs) v from hv1) with
  | clo _ _ us u hz hv h =>
    have hc := Any.strings_IndexFunc_grows layG15 f us eg p ⟨s.toArray⟩ w (pred_growsC hf hg hB hz hv h)
    refine Calls.mono hc fun e w' h => ?_
    refine ⟨_, h.1, ?_, h.2⟩
    rw [idxFn p hp]
    exact .int _ _
theorem runQ_high (nm : Bool) (r : Nat) (h : 128 ≤ r) : runQ nm r = true := by
  unfold runQ digI lettI
  have h1 : decide ((r : Int) ≤ 57) = false := decide_eq_false (by omega)
  have h2 : decide ((r : Int) ≤ 122) = false := decide_eq_false (by omega)
  have h3 : ((r : Int) == 95) = false := by rw [beq_eq_false_iff_ne]; omega
  rw [h1, h2, h3]
  simp
theorem f_xfR_ok (nm : Bool) : PureOK Tryd.prog 103 true (g_xf 105 [.ref [.bool nm]] fun b => runQ nm b.toNat) :=
  f_xf_ok (p := fun r => runQ nm r) f_runC_ok (fun r => g_runC_eq trivial) (runQ_high nm) (enters_of Tryd.func105 (by kernel_rfl) rfl)
end Go.Ab
namespace Go.Ab
open Go Go.RowKit Go.Proofs
set_option maxRecDepth 1000000
set_option maxHeartbeats 4000000
def numGo : Int → Bs → Int × Int
  | n, [] => (n, 0)
  | n, c :: r => if decide (10 * n + ((c.toNat : Int) - 48) > 4294967295) then (0, 3) else numGo (10 * n + ((c.toNat : Int) - 48)) r
def digQ (c : UInt8) : Bool := decide (48 ≤ (c.toNat : Int)) && decide ((c.toNat : Int) ≤ 57)
theorem numGo_step {n : Int} {s : Bs} {i : Nat} (hi : i < s.length) : numGo n (s.drop i) = if decide (10 * n + ((s[i].toNat : Int) - 48) > 4294967295) then (0, 3) else numGo (10 * n + ((s[i].toNat : Int) - 48)) (s.drop (i + 1)) := by
  rw [List.drop_eq_getElem_cons hi, numGo]
theorem num_calls (s : Bs) (b : Bool) (w : World) (hs : s.length ≤ 1099511627776) (n : Int) (hn : (n != (s.length : Int)) = !b)
    (hrun : ∀ w, Calls Tryd.prog 99 #[.string ⟨s.toArray⟩, .bool false] w fun e w' => e = .returned (.int .i64 n) ∧ Below w.heap.size w w') (hd : b = true → ∀ c ∈ s, digQ c = true) (p : Int × Int)
    (hp : p = if s == [] || (!b || (decide ((s.length : Int) > 1) && s.headD 0 == 48)) then (0, 4) else numGo 0 s) :
    Calls Tryd.prog 101 #[.string ⟨s.toArray⟩] w fun e w' => e = .returned (.tuple #[.int .u32 p.1, .int .i64 p.2]) ∧ Below w.heap.size w w' := by
  rcases s with _ | ⟨c, r⟩
  · subst hp
    go_enter Tryd.func101, Tryd.ntmps101
    go_wp2
    go_ret2
    exact ⟨rfl, Below.refl _ _⟩
  have hse : (⟨(c :: r).toArray⟩ : ByteArray).toList.isEmpty = false := by
    rw [ByteArray.toList_eq]
    rfl
  have hsz : (⟨(c :: r).toArray⟩ : ByteArray).size = (c :: r).length := by simp [ByteArray.size]
  have h0 : ∀ h : 0 < (⟨(c :: r).toArray⟩ : ByteArray).size, (⟨(c :: r).toArray⟩ : ByteArray)[0]'h = c := fun _ => rfl
  have hg : ∀ (i : Nat) (h : i < (⟨(c :: r).toArray⟩ : ByteArray).size) (h2 : i < (c :: r).length), (⟨(c :: r).toArray⟩ : ByteArray)[i]'h = (c :: r)[i] := fun _ _ _ => rfl
  have hpos : 0 < (c :: r).length := by simp
  have hhd : (c :: r).headD 0 = c := rfl
  rw [hhd, show ((c :: r) == []) = false from rfl, Bool.false_or] at hp
  generalize c :: r = s at *
  generalize hS : (⟨s.toArray⟩ : ByteArray) = S at *
  clear hS
  cases b
  · replace hn : (n != (s.length : Int)) = true := hn
    go_enter Tryd.func101, Tryd.ntmps101
    go_wp2_with fail
    refine (hrun _).mono ?_
    rintro e w' ⟨rfl, hb⟩
    go_wp2_with fail
    go_ret2
    exact ⟨by rw [hp]; rfl, hb⟩
  · replace hn : (n != (s.length : Int)) = false := hn
    have hdd := hd rfl
    have hc0 : ((c.toNat : Int) == 48) = (c == 48) := by
      rw [Bool.eq_iff_iff]
      simp only [beq_iff_eq]
      exact ⟨fun h => UInt8.toNat_inj.1 (by have : (48 : UInt8).toNat = 48 := rfl; omega), fun h => by rw [h]; rfl⟩
    generalize hc2 : (c == 48) = c2 at *
    by_cases hl1 : 1 < s.length
    · have hl2 : decide ((s.length : Int) > 1) = true := decide_eq_true (by omega)
      rw [hl2] at hp
      cases c2
      · have hpp : p = numGo 0 s := by rw [hp]; rfl
        go_enter Tryd.func101, Tryd.ntmps101
        go_wp2_with fail
        refine (hrun _).mono ?_
        rintro e w' ⟨rfl, hb⟩
        go_wp2_with fail
        go_loopw [4] (fun v wx => ∃ (i : Nat) (m : Int), wx = w'.iter S i ∧ v = .int .u64 m ∧ i ≤ s.length ∧ numGo 0 s = numGo m (s.drop i) ∧ 0 ≤ m ∧ m ≤ 4294967295) (fun _ wx => S.size - wx.iterPos w'.heap.size)
        case atStart => exact ⟨0, 0, rfl, rfl, Nat.zero_le _, rfl, by omega, by omega⟩
        case round =>
          obtain ⟨i, m, rfl, rfl, hi, hm, hm0, hm1⟩ := hrel
          by_cases hp' : i < s.length
          · have hsi : i < S.size := by omega
            have hci := hdd _ (List.getElem_mem hp')
            have hgi := hg i hsi hp'
            have hst := numGo_step (n := m) hp'
            generalize s[i] = x at *
            have hx : 48 ≤ x.toNat ∧ x.toNat ≤ 57 := by
              unfold digQ at hci
              simp only [Bool.and_eq_true, decide_eq_true_eq] at hci
              omega
            have hnx : ∀ ty, (Instr.next (.pointer (some ⟨w'.heap.size, 0, none⟩)) true ty).run Tryd.prog (w'.iter S i) = _ := fun ty => run_next_ascii w' S i ty hsi (by rw [hgi]; omega)
            rw [hgi] at hnx
            clear hg h0 hsz hdd hgi
            have hbi : ∀ k, Below w.heap.size w (w'.iter S k) := fun k => hb.alloc hb.size _
            by_cases hbig : 4294967295 < 10 * m + ((x.toNat : Int) - 48)
            · rw [decide_eq_true hbig, if_pos rfl] at hst
              go_wp2
              go_ret2
              exact ⟨by rw [hpp, hm, hst]; rfl, hbi _⟩
            · rw [decide_eq_false hbig, if_neg (by decide)] at hst
              go_wp2
              go_roundw
              case rel => exact ⟨i + 1, _, rfl, rfl, by omega, by rw [hm, hst], by omega, by omega⟩
              case measure =>
                simp
                omega
          · have hie : i = s.length := by omega
            have hnx : ∀ ty, (Instr.next (.pointer (some ⟨w'.heap.size, 0, none⟩)) true ty).run Tryd.prog (w'.iter S i) = _ := fun ty => run_next_end w' S i ty (by omega)
            subst hie
            go_wp2
            go_ret2
            rw [List.drop_length] at hm
            exact ⟨by rw [hpp, hm]; rfl, hb.alloc hb.size _⟩
      · go_enter Tryd.func101, Tryd.ntmps101
        go_wp2_with fail
        refine (hrun _).mono ?_
        rintro e w' ⟨rfl, hb⟩
        go_wp2_with fail
        go_ret2
        exact ⟨by rw [hp]; rfl, hb⟩
    · have hl2 : decide ((s.length : Int) > 1) = false := decide_eq_false (by omega)
      rw [hl2] at hp
      · have hpp : p = numGo 0 s := by rw [hp]; rfl
        go_enter Tryd.func101, Tryd.ntmps101
        go_wp2_with fail
        refine (hrun _).mono ?_
        rintro e w' ⟨rfl, hb⟩
        go_wp2_with fail
        go_loopw [4] (fun v wx => ∃ (i : Nat) (m : Int), wx = w'.iter S i ∧ v = .int .u64 m ∧ i ≤ s.length ∧ numGo 0 s = numGo m (s.drop i) ∧ 0 ≤ m ∧ m ≤ 4294967295) (fun _ wx => S.size - wx.iterPos w'.heap.size)
        case atStart => exact ⟨0, 0, rfl, rfl, Nat.zero_le _, rfl, by omega, by omega⟩
        case round =>
          obtain ⟨i, m, rfl, rfl, hi, hm, hm0, hm1⟩ := hrel
          by_cases hp' : i < s.length
          · have hsi : i < S.size := by omega
            have hci := hdd _ (List.getElem_mem hp')
            have hgi := hg i hsi hp'
            have hst := numGo_step (n := m) hp'
            generalize s[i] = x at *
            have hx : 48 ≤ x.toNat ∧ x.toNat ≤ 57 := by
              unfold digQ at hci
              simp only [Bool.and_eq_true, decide_eq_true_eq] at hci
              omega
            have hnx : ∀ ty, (Instr.next (.pointer (some ⟨w'.heap.size, 0, none⟩)) true ty).run Tryd.prog (w'.iter S i) = _ := fun ty => run_next_ascii w' S i ty hsi (by rw [hgi]; omega)
            rw [hgi] at hnx
            clear hg h0 hsz hdd hgi
            have hbi : ∀ k, Below w.heap.size w (w'.iter S k) := fun k => hb.alloc hb.size _
            by_cases hbig : 4294967295 < 10 * m + ((x.toNat : Int) - 48)
            · rw [decide_eq_true hbig, if_pos rfl] at hst
              go_wp2
              go_ret2
              exact ⟨by rw [hpp, hm, hst]; rfl, hbi _⟩
            · rw [decide_eq_false hbig, if_neg (by decide)] at hst
              go_wp2
              go_roundw
              case rel => exact ⟨i + 1, _, rfl, rfl, by omega, by rw [hm, hst], by omega, by omega⟩
              case measure =>
                simp
                omega
          · have hie : i = s.length := by omega
            have hnx : ∀ ty, (Instr.next (.pointer (some ⟨w'.heap.size, 0, none⟩)) true ty).run Tryd.prog (w'.iter S i) = _ := fun ty => run_next_end w' S i ty (by omega)
            subst hie
            go_wp2
            go_ret2
            rw [List.drop_length] at hm
            exact ⟨by rw [hpp, hm]; rfl, hb.alloc hb.size _⟩
end Go.Ab
